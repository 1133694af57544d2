/-
  The statement bucketlinelaw7.MessagePuts, the card in the form in which it is given: for every input the law returns true, and each argument reads as it did; the two tables of utf8 that it reads are tied. Its walk stands ahead of it (MsShown, MsRef9, MsLaw5). Printed by a program of this claim's writer after the kit's own frame.
-/
import Derived.Test.YtflojipkgaocnaaGreatDoorMsFlat
import Derived.Test.YtflojipkgaocnaaGreatDoorMsRefC
import Derived.Test.YtflojipkgaocnaaGreatDoorRegInv
import Derived.Deep.MidRow
import Derived.BigQuiet
import Derived.IntWalk
import Derived.Test.YtflojipkgaocnaaGreatDoorRows
import Derived.Test.YtflojipkgaocnaaGreatDoorTie
import Derived.Test.YtflojipkgaocnaaGreatDoorCards
import Derived.Test.YtflojipkgaocnaaGreatDoorMsOpen
import Derived.Test.YtflojipkgaocnaaGreatDoorShelf
import Derived.WalkKit
import Derived.ProofKit
import Derived.OpenShut
import Derived.ShutString
import Derived.ChangeOld
import Derived.LaidMore
import Derived.Lay
import Derived.PinnedBridge
import Derived.Lib.LaidU8T
import Derived.SevenTiedAt
import Derived.Stop.Joined
import Derived.Below
namespace Go.Proofs.YtflojipkgaocnaaGreatDoor
open Go.RowKit
set_option linter.unusedSimpArgs false
set_option linter.unusedVariables false

theorem shown_take1 : takeM [5, 9] = (some (.whr 9), 0) := by
  have h := takeM_put (m := .whr 9) (by decide)
  have e : (putM (.whr 9)).data.toList = [5, 9] := by
    rw [putM_list (by decide)]
    show UInt8.ofNat 5 :: putN (clampN 9) = _
    rw [show clampN 9 = 9 from by decide, putN_small (by decide)]
    rfl
  rw [e] at h
  exact h
theorem shown_take2 : takeM [5, 9, 0] = (none, 2) := by
  have h := takeM_more (m := .whr 9) (by decide) 0
  have e : (putM (.whr 9)).data.toList = [5, 9] := by
    rw [putM_list (by decide)]
    show UInt8.ofNat 5 :: putN (clampN 9) = _
    rw [show clampN 9 = 9 from by decide, putN_small (by decide)]
    rfl
  rw [e] at h
  exact h
theorem shown_take3 : takeM [99] = (none, 2) := by
  rw [takeM, if_pos (by decide)]
theorem shown_put : putM (.ack 1 2 300) = ⟨#[8, 1, 2, 172, 2]⟩ := by
  apply ext_listE
  rw [putM_list (by decide)]
  show UInt8.ofNat 8 :: (putN (clampN 1) ++ (putN (clampN 2) ++ putN (clampN 300))) = _
  rw [show clampN 1 = 1 from by decide, show clampN 2 = 2 from by decide, show clampN 300 = 300 from by decide, putN_small (show 1 < 128 by decide), putN_small (show 2 < 128 by decide), putN_large (show ¬ 300 < 128 by decide), putN_small (show 300 / 128 < 128 by decide)]
  rfl

set_option maxRecDepth 100000 in
set_option maxHeartbeats 6400000 in
theorem shown_any (w : World) (hT : Tabs w) : Calls Tryz.prog 4 #[] w fun r w' => r = .returned (.bool true) ∧ Below w.heap.size w w' := by
  have HT := Lib.hid hT
  have C1 := Lib.hid (takeM_any [5, 9] _ _ shown_take1 (by simp) w hT)
  have C2 := Lib.hid (fun (X : World) (hX : Below w.heap.size w X) => takeM_any [5, 9, 0] _ _ shown_take2 (by simp) X (tabs_below HT.out hX))
  have C3 := Lib.hid (fun (X : World) (hX : Below w.heap.size w X) => takeM_any [99] _ _ shown_take3 (by simp) X (tabs_below HT.out hX))
  have CP := Lib.hid (fun (X : World) (hX : Below w.heap.size w X) => putM_any X.heap.size (.iface 51 (.agg #[.int .i64 1, .int .i64 2, .int .i64 300])) (.ack 1 2 300) _ shown_put X rfl (Nat.le_refl _) (tabs_below HT.out hX) trivial)
  have q1 : ((⟨#[8, 1, 2, 172, 2]⟩ : ByteArray).toList == (⟨#[8, 1, 2, 172, 2]⟩ : ByteArray).toList) = true := by simp
  clear hT
  go_enter Tryz.func4, Tryz.ntmps4
  go_wp2_with fail
  refine C1.out.mono ?_
  rintro r w1 ⟨v1, rfl, -, hm1, hb1⟩
  have hm := hm1 (.whr 9) rfl
  have HM := Lib.hid hm
  obtain rfl := hm
  have HB1 := Lib.hid hb1
  clear hm1 hb1
  go_wp2_with fail
  refine (C2.out _ HB1.out).mono ?_
  rintro r w2 ⟨v2, rfl, hn2, -, hb2⟩
  obtain rfl := hn2 rfl
  have HB2 := Lib.hid (bstep HB1.out hb2)
  clear hn2 hb2
  go_wp2_with fail
  refine (C3.out _ HB2.out).mono ?_
  rintro r w3 ⟨v3, rfl, hn3, -, hb3⟩
  obtain rfl := hn3 rfl
  have HB3 := Lib.hid (bstep HB2.out hb3)
  clear hn3 hb3
  go_wp2_with fail
  refine (flat_whr w3.heap.size _ 9 w3 rfl (Nat.le_refl _)).mono ?_
  rintro r w4 ⟨v4, rfl, hf, hb4⟩
  have HB4 := Lib.hid (bstep HB3.out hb4)
  obtain ⟨nv, cv, sv, bv, mv, ev, vv, lv, rfl, g1, g2, g3, g4, g5, g6, g7, g8⟩ := hf
  obtain ⟨_, _, rfl⟩ := g1.form
  obtain ⟨_, _, rfl⟩ := g2.form
  obtain ⟨_, _, rfl⟩ := g3.form
  obtain ⟨_, _, rfl⟩ := g4.form
  obtain ⟨_, _, rfl⟩ := g5.form
  obtain ⟨_, _, rfl⟩ := g6.form
  obtain ⟨_, _, rfl⟩ := g7.form
  obtain ⟨_, _, rfl⟩ := g8.form
  clear g1 g2 g3 g4 g5 g6 g7 g8 hb4
  simp only [flatM, zeroF, zeroB]
  have HA := Lib.hid (Below.refl w4.heap.size w4)
  go_wp2_with fail
  refine (CP.out _ (HB4.out.alloc (by have := HB4.out.size; omega) _)).mono ?_
  rintro r w5 ⟨rfl, hb5⟩
  have y0 : w5.cell? ⟨w4.heap.size, 0, none⟩ = some (.int .i64 5) := (hb5.cell (p := ⟨w4.heap.size, 0, none⟩) (by simp only [World.size_alloc]; omega)).trans (by simp)
  have HB5 := Lib.hid (bstep (HB4.out.alloc (by have := HB4.out.size; omega) _) hb5)
  clear hb5
  go_wp2_with fail
  refine (right_nil _).mono ?_
  rintro r w6 ⟨rfl, hb6⟩
  have HB6 := Lib.hid (bstep HB5.out hb6)
  clear hb6
  go_wp2_with fail
  refine (epoch_nil _).mono ?_
  rintro r w7 ⟨rfl, hb7⟩
  go_wp2_with fail
  go_ret
  exact ⟨rfl, bstep HB6.out hb7⟩
end Go.Proofs.YtflojipkgaocnaaGreatDoor
namespace Go.Proofs.YtflojipkgaocnaaGreatDoor
open Go.RowKit
set_option linter.unusedSimpArgs false
set_option linter.unusedVariables false

set_option maxRecDepth 100000 in
set_option maxHeartbeats 12800000 in
theorem refEpoch7_lit (B : Nat) (kn : Int) (nu ch si bo : List Int) (mk : List (Int × Int)) (en : List EN) (ev : List EV) (b : BW) (st : ByteArray) (na ca sa oa ma ea va la : Option Addr) (nc cc sc oc mc ec vc lc : Nat) (w : World) (hN : IsNums B w (.slice na nu.length nc) nu) (hC : IsNums B w (.slice ca ch.length cc) ch) (hS : IsNums B w (.slice sa si.length sc) si) (hO : IsNums B w (.slice oa bo.length oc) bo) (hM : IsMarks B w (.slice ma mk.length mc) mk) (hE : IsEntries B w (.slice ea en.length ec) en) (hV : IsEvents B w (.slice va ev.length vc) ev) (hL : IsEvents B w (.slice la b.events.length lc) b.events) (hB : B ≤ w.heap.size) (q : Bool) (hq : rightF ⟨kn, nu, ch, si, bo, mk, en, ev, b, st⟩ = q) (hkn : 1 ≤ kn ∧ kn ≤ 14) (hbe : ∀ x ∈ en, BigB x.b) (hbv : ∀ x ∈ ev, BigE x) (hbb : BigB b) (hst : st.size ≤ 100000) (n : Int)
    (hn : q = true → kn = 1 → ∃ h : 1 < nu.length, nu[1] = n) (hn0 : q = true → kn = 3 ∨ kn = 4 ∨ kn = 6 ∨ kn = 7 ∨ kn = 8 ∨ kn = 9 ∨ kn = 10 → ∃ h : 0 < nu.length, nu[0] = n) (hz : q = true → kn = 2 ∨ kn = 5 ∨ kn = 11 ∨ kn = 12 ∨ kn = 13 ∨ kn = 14 → n = 0) (hf : q = false → n = 0) :
    Calls Tryz.prog 13 #[.agg #[.int .i64 kn, .slice na nu.length nc, .slice ca ch.length cc, .slice sa si.length sc, .slice oa bo.length oc, .slice ma mk.length mc, .slice ea en.length ec, .slice va ev.length vc, .string b.stream, .int .i64 b.expect, .int .i64 b.session, .int .i64 b.seq, .slice la b.events.length lc, .string st]] w fun r w' => r = .returned (.int .i64 n) ∧ Below w.heap.size w w' := by
  have HN := Lib.hid hN
  have HC := Lib.hid hC
  have HS := Lib.hid hS
  have HO := Lib.hid hO
  have HM := Lib.hid hM
  have HE := Lib.hid hE
  have HV := Lib.hid hV
  have HL := Lib.hid hL
  have mN : nu.length ≤ 9223372036854775807 := hN.le
  have mC : ch.length ≤ 9223372036854775807 := hC.le
  have mS : si.length ≤ 9223372036854775807 := hS.le
  have mO : bo.length ≤ 9223372036854775807 := hO.le
  have mM : mk.length ≤ 9223372036854775807 := hM.le
  have mE : en.length ≤ 9223372036854775807 := hE.le
  have mV : ev.length ≤ 9223372036854775807 := hV.le
  have mL : b.events.length ≤ 9223372036854775807 := hL.le
  have HB := Lib.hid hB
  have HBX0 := Lib.hid (bx_new (w := w) (.cells #[.int .i64 kn, .slice na nu.length nc, .slice ca ch.length cc, .slice sa si.length sc, .slice oa bo.length oc, .slice ma mk.length mc, .slice ea en.length ec, .slice va ev.length vc, .string b.stream, .int .i64 b.expect, .int .i64 b.session, .int .i64 b.seq, .slice la b.events.length lc, .string st] 37))
  have hn2 := bx_below HBX0.out
  have CR := Lib.hid (refRight7_lit B kn nu ch si bo mk en ev b st na ca sa oa ma ea va la nc cc sc oc mc ec vc lc (w.alloc (.cells #[.int .i64 kn, .slice na nu.length nc, .slice ca ch.length cc, .slice sa si.length sc, .slice oa bo.length oc, .slice ma mk.length mc, .slice ea en.length ec, .slice va ev.length vc, .string b.stream, .int .i64 b.expect, .int .i64 b.session, .int .i64 b.seq, .slice la b.events.length lc, .string st] 37)) (hN.keep hn2 hB) (hC.keep hn2 hB) (hS.keep hn2 hB) (hO.keep hn2 hB) (hM.keep hn2 hB) (hE.keep hn2 hB) (hV.keep hn2 hB) (hL.keep hn2 hB) (Nat.le_trans hB hn2.size) q hq hkn hbe hbv hbb hst)
  clear hN hC hS hO hM hE hV hL hB hq hbe hbv hbb hst hn2
  cases q with
  | false =>
    obtain rfl := hf rfl
    clear hn hn0 hz hf
    go_enter Tryz.func13, Tryz.ntmps13
    go_wp2_with fail
    refine CR.out.mono ?_
    rintro r w1 ⟨rfl, hb1⟩
    go_wp2_with fail
    go_ret
    exact ⟨rfl, bx_below (bx_more HBX0.out hb1)⟩
  | true =>
    have hk : kn = 1 ∨ (kn = 3 ∨ kn = 4 ∨ kn = 6 ∨ kn = 7 ∨ kn = 8 ∨ kn = 9 ∨ kn = 10) ∨ (kn = 2 ∨ kn = 5 ∨ kn = 11 ∨ kn = 12 ∨ kn = 13 ∨ kn = 14) := by omega
    rcases hk with hk | hk | hk
    · obtain ⟨hlt, hv⟩ := hn rfl hk
      subst hk
      clear hn hn0 hz hf hkn
      go_enter Tryz.func13, Tryz.ntmps13
      go_wp2_with fail
      refine CR.out.mono ?_
      rintro r w1 ⟨rfl, hb1⟩
      have HBX := Lib.hid (bx_more HBX0.out hb1)
      have y0 := box_range HBX.out 0 _ rfl
      simp only [Nat.zero_add] at y0
      clear hb1
      have y := box_range HBX.out 1 _ rfl
      simp only [Nat.zero_add] at y
      obtain ⟨bb, oo, qq, he, _, _, hc1⟩ := (HN.out.keep (bx_below HBX.out) HB.out).at1 1 hlt
      obtain ⟨e1, -, e3⟩ : na = some ⟨bb, oo, none⟩ ∧ nu.length = nu.length ∧ nc = qq := by injection he with e1 e2 e3; exact ⟨e1, e2, e3⟩
      rw [e1, e3] at y
      rw [hv] at hc1
      have i2 : (1 : Int) < (nu.length : Int) := by omega
      clear he e1 e3
      go_wp2_with fail
      go_ret
      exact ⟨rfl, bx_below HBX.out⟩
    · obtain ⟨hlt, hv⟩ := hn0 rfl hk
      clear hn hn0 hz hf hkn
      rcases hk with rfl | rfl | rfl | rfl | rfl | rfl | rfl
      all_goals
        go_enter Tryz.func13, Tryz.ntmps13
        go_wp2_with fail
        refine CR.out.mono ?_
        rintro r w1 ⟨rfl, hb1⟩
        have HBX := Lib.hid (bx_more HBX0.out hb1)
        have y0 := box_range HBX.out 0 _ rfl
        simp only [Nat.zero_add] at y0
        clear hb1
        have y := box_range HBX.out 1 _ rfl
        simp only [Nat.zero_add] at y
        obtain ⟨bb, oo, qq, he, _, _, hc1⟩ := (HN.out.keep (bx_below HBX.out) HB.out).at1 0 hlt
        obtain ⟨e1, -, e3⟩ : na = some ⟨bb, oo, none⟩ ∧ nu.length = nu.length ∧ nc = qq := by injection he with e1 e2 e3; exact ⟨e1, e2, e3⟩
        rw [e1, e3] at y
        rw [hv] at hc1
        rw [Nat.add_zero] at hc1
        have i2 : (0 : Int) < (nu.length : Int) := by omega
        clear he e1 e3
        go_wp2_with fail
        go_ret
        exact ⟨rfl, bx_below HBX.out⟩
    · obtain rfl := hz rfl hk
      clear hn hn0 hz hf hkn
      rcases hk with rfl | rfl | rfl | rfl | rfl | rfl
      all_goals
        go_enter Tryz.func13, Tryz.ntmps13
        go_wp2_with fail
        refine CR.out.mono ?_
        rintro r w1 ⟨rfl, hb1⟩
        have HBX := Lib.hid (bx_more HBX0.out hb1)
        have y0 := box_range HBX.out 0 _ rfl
        simp only [Nat.zero_add] at y0
        clear hb1
        go_wp2_with fail
        go_ret
        exact ⟨rfl, bx_below HBX.out⟩
/-- What may be asked. -/
structure BigM (f : FW) : Prop where
  e : ∀ x ∈ f.entries, BigB x.b
  v : ∀ x ∈ f.events, BigE x
  b : BigB f.b
  s : f.stream.size ≤ 100000
theorem refRightM_any (B : Nat) (v : Value) (m : Msg) (q : Bool) (hq : rightM m = q) (w : World) (h : IsFlat B w v (flatM m)) (hB : B ≤ w.heap.size) (hb : BigM (flatM m)) :
    Calls Tryz.prog 9 #[v] w fun r w' => r = .returned (.bool q) ∧ Below w.heap.size w w' :=
  refRight7_any B v (flatM m) q (by rw [right_flat]; exact hq) w h hB (by rw [flat_kind]; have := kind_bd m; omega) hb.e hb.v hb.b hb.s
theorem go_flat2 (m : Msg) : goF (flatM m) (letters m.kind) 0 = bodyM m ∨ ∃ a b c d e f l, m = .logs a b c d e f l ∧ goF (flatM m) (letters m.kind) 0 = catL putI m.nums ++ putL bytesR l := by
  cases m
  case logs a b c d e f l =>
    refine .inr ⟨a, b, c, d, e, f, l, rfl, ?_⟩
    simp only [letters, Msg.kind, shapeB, goF, partF, flatM, zeroF, Msg.nums, catL, List.flatMap_cons, List.flatMap_nil, List.append_nil, List.append_assoc]
    rfl
  all_goals
    left
    simp only [letters, Msg.kind, shapeB, goF, partF, flatM, zeroF, bodyM, Msg.nums, Msg.rest, catL, List.flatMap_cons, List.flatMap_nil, List.append_nil, List.append_assoc]
    rfl
theorem go_len {m : Msg} (hL : LightM m) : (goF (flatM m) (letters m.kind) 0).length ≤ 199999999 := by
  have hnums := catI_le m.nums
  have hn6 := nums_le m
  rcases go_flat2 m with h | ⟨a, b, c, d, e, f, l, rfl, h⟩
  · have hrest := rest_le hL
    rw [h, bodyM, List.length_append]
    omega
  · have h1 := catR_le l
    have h2 : l.length ≤ 1000 := hL
    have h3 := putN_len6 (clampN_le (l.length : Int))
    rw [h, List.length_append]
    unfold putL
    rw [List.length_append]
    omega
theorem refPutM_any (B : Nat) (v : Value) (m : Msg) (s : ByteArray) (hs : putM m = s) (w : World) (h : IsFlat B w v (flatM m)) (hB : B ≤ w.heap.size) (hb : BigM (flatM m)) (hL : LightM m) :
    Calls Tryz.prog 11 #[v] w fun r w' => r = .returned (.string s) ∧ Below w.heap.size w w' := by
  have hkd := flat_kind m
  have hrf := right_flat m
  have hcn := flat_cnt m
  have hlen : (UInt8.ofNat m.kind :: goF (flatM m) (letters m.kind) 0).length ≤ 200000000 := by
    have := go_len hL
    rw [List.length_cons]
    omega
  have hs2 : (if rightM m = true then bstr (UInt8.ofNat m.kind :: goF (flatM m) (letters m.kind) 0) else ⟨#[]⟩) = s := by
    rw [← hs, putM]
    by_cases hr : rightM m = true
    · rw [if_pos hr, if_pos hr, go_flat hr]
    · rw [if_neg hr, if_neg hr]
  have hk := kind_bd m
  generalize hfl : flatM m = f at h hb hkd hrf hcn hlen hs2
  obtain ⟨nv, cv, sv, bv, mv, ev, vv, lv, rfl, h1, h2, h3, h4, h5, h6, h7, h8⟩ := h
  obtain ⟨a1, c1, rfl⟩ := h1.form
  obtain ⟨a2, c2, rfl⟩ := h2.form
  obtain ⟨a3, c3, rfl⟩ := h3.form
  obtain ⟨a4, c4, rfl⟩ := h4.form
  obtain ⟨a5, c5, rfl⟩ := h5.form
  obtain ⟨a6, c6, rfl⟩ := h6.form
  obtain ⟨a7, c7, rfl⟩ := h7.form
  obtain ⟨a8, c8, rfl⟩ := h8.form
  rw [← hs2]
  exact refPut7_lit B _ _ _ _ _ _ _ _ _ _ a1 a2 a3 a4 a5 a6 a7 a8 c1 c2 c3 c4 c5 c6 c7 c8 w h1 h2 h3 h4 h5 h6 h7 h8 hB (rightM m) hrf m.kind hkd hk hb.e hb.v hb.b hb.s _ rfl hlen (Nat.le_of_eq hcn)
theorem refEpochM_any (B : Nat) (v : Value) (m : Msg) (n : Int) (hn : epochM m = n) (w : World) (h : IsFlat B w v (flatM m)) (hB : B ≤ w.heap.size) (hb : BigM (flatM m)) :
    Calls Tryz.prog 13 #[v] w fun r w' => r = .returned (.int .i64 n) ∧ Below w.heap.size w w' := by
  have hk := kind_bd m
  have hkd := flat_kind m
  have hrf := right_flat m
  have q1 : rightM m = true → (flatM m).kind = 1 → ∃ h : 1 < (flatM m).nums.length, (flatM m).nums[1] = n := fun hq hk => by
    unfold epochM at hn
    rw [hq, if_pos rfl] at hn
    cases m <;> first | exact ⟨by simp [flatM, zeroF], hn⟩ | (exact absurd hk (by simp [flatM, zeroF]))
  have q2 : rightM m = true → (flatM m).kind = 3 ∨ (flatM m).kind = 4 ∨ (flatM m).kind = 6 ∨ (flatM m).kind = 7 ∨ (flatM m).kind = 8 ∨ (flatM m).kind = 9 ∨ (flatM m).kind = 10 → ∃ h : 0 < (flatM m).nums.length, (flatM m).nums[0] = n := fun hq hk => by
    unfold epochM at hn
    rw [hq, if_pos rfl] at hn
    cases m <;> first | exact ⟨by simp [flatM, zeroF], hn⟩ | (exact absurd hk (by simp [flatM, zeroF]))
  have q3 : rightM m = true → (flatM m).kind = 2 ∨ (flatM m).kind = 5 ∨ (flatM m).kind = 11 ∨ (flatM m).kind = 12 ∨ (flatM m).kind = 13 ∨ (flatM m).kind = 14 → n = 0 := fun hq hk => by
    unfold epochM at hn
    rw [hq, if_pos rfl] at hn
    cases m <;> first | exact hn.symm | (exact absurd hk (by simp [flatM, zeroF]))
  have q4 : rightM m = false → n = 0 := fun hq => by
    unfold epochM at hn
    rw [hq, if_neg (by decide)] at hn
    exact hn.symm
  generalize hfl : flatM m = f at h hb hkd hrf q1 q2 q3
  obtain ⟨nv, cv, sv, bv, mv, ev, vv, lv, rfl, h1, h2, h3, h4, h5, h6, h7, h8⟩ := h
  obtain ⟨a1, c1, rfl⟩ := h1.form
  obtain ⟨a2, c2, rfl⟩ := h2.form
  obtain ⟨a3, c3, rfl⟩ := h3.form
  obtain ⟨a4, c4, rfl⟩ := h4.form
  obtain ⟨a5, c5, rfl⟩ := h5.form
  obtain ⟨a6, c6, rfl⟩ := h6.form
  obtain ⟨a7, c7, rfl⟩ := h7.form
  obtain ⟨a8, c8, rfl⟩ := h8.form
  exact refEpoch7_lit B _ _ _ _ _ _ _ _ _ _ a1 a2 a3 a4 a5 a6 a7 a8 c1 c2 c3 c4 c5 c6 c7 c8 w h1 h2 h3 h4 h5 h6 h7 h8 hB (rightM m) hrf (by rw [hkd]; omega) hb.e hb.v hb.b hb.s n q1 q2 q3 q4
end Go.Proofs.YtflojipkgaocnaaGreatDoor
namespace Go.Proofs.YtflojipkgaocnaaGreatDoor
open Go.RowKit
set_option linter.unusedSimpArgs false
set_option linter.unusedVariables false

theorem heap_range {X : World} {g : Nat} {cs : List Value} {t : TypeId} {fr : Nat × Nat} (h : X.heap[g]? = some (.cells cs.toArray t fr)) : X.rangeAt g 0 cs := fun j v hv => by
  rw [Nat.zero_add, Lib.cell_of_heap h, List.getElem?_toArray]
  exact hv
/-- What a store into the box leaves. -/
theorem made_big {d : DW} {m : Msg} (h : SmallD d) (hm : madeD d = some m) : BigM (flatM m) := by
  have hes : ∀ x ∈ d.entries, BigB x.b := fun x hx => ⟨by have := (h.es x hx).1; omega, fun i hi h8 => ⟨by have := ((h.es x hx).2 i hi (by omega)).1; omega⟩⟩
  have hvs : ∀ x ∈ d.events, BigE x := fun x hx => ⟨by have := (h.vs x hx).1; omega⟩
  have hbb : BigB d.b := ⟨by have := h.bs; omega, fun i hi h8 => ⟨by have := (h.be _ (List.getElem_mem hi)).1; omega⟩⟩
  have hst : d.stream.size ≤ 100000 := by have := h.s; omega
  have z1 : ∀ x ∈ ([] : List EN), BigB x.b := fun x hx => absurd hx (by simp)
  have z2 : ∀ x ∈ ([] : List EV), BigE x := fun x hx => absurd hx (by simp)
  have z3 : BigB zeroB := ⟨by show (⟨#[]⟩ : ByteArray).size ≤ 100000; decide, fun i hi => absurd hi (by simp [zeroB])⟩
  have z4 : (⟨#[]⟩ : ByteArray).size ≤ 100000 := by decide
  rcases made_cases hm with ⟨-, rfl⟩ | ⟨-, rfl⟩ | ⟨-, rfl⟩ | ⟨-, rfl⟩ | ⟨-, rfl⟩ | ⟨-, rfl⟩ | ⟨-, rfl⟩ | ⟨-, rfl⟩ | ⟨-, rfl⟩ | ⟨-, rfl⟩ | ⟨-, rfl⟩ | ⟨-, rfl⟩ | ⟨-, rfl⟩ | ⟨-, rfl⟩ <;> exact ⟨by first | exact hes | exact z1, by first | exact hvs | exact z2, by first | exact hbb | exact z3, by first | exact hst | exact z4⟩

set_option maxRecDepth 100000 in
set_option maxHeartbeats 25600000 in
theorem puts_lit (k n0 n1 n2 n3 n4 n5 : Int) (ch si bo : List Int) (mk : List (Int × Int)) (en : List EN) (ev : List EV) (b : BW) (st : ByteArray) (ca sa ba ma ea va la : Option Addr) (ck sk bk mc ec vk lk : Nat) (W : World) (h : DOk W.heap.size W ⟨k, n0, n1, n2, n3, n4, n5, ch, si, bo, mk, en, ev, b, st⟩ ⟨.slice ca ch.length ck, .slice sa si.length sk, .slice ba bo.length bk, .slice ma mk.length mc, .slice ea en.length ec, .slice va ev.length vk, .slice la b.events.length lk⟩) (hsz : SizeD ⟨k, n0, n1, n2, n3, n4, n5, ch, si, bo, mk, en, ev, b, st⟩) (hT : Tabs W) (xm : Option Msg) (hm : madeD ⟨k, n0, n1, n2, n3, n4, n5, ch, si, bo, mk, en, ev, b, st⟩ = xm) :
    Calls Tryz.prog 3 #[.agg #[.int .i64 k, .int .i64 n0, .int .i64 n1, .int .i64 n2, .int .i64 n3, .int .i64 n4, .int .i64 n5, .slice ca ch.length ck, .slice sa si.length sk, .slice ba bo.length bk, .slice ma mk.length mc, .slice ea en.length ec, .slice va ev.length vk, .string b.stream, .int .i64 b.expect, .int .i64 b.session, .int .i64 b.seq, .slice la b.events.length lk, .string st]] W fun r w' => r = .returned (.bool true) ∧ Below W.heap.size W w' := by
  have HT := Lib.hid hT
  have q1 := iface_neq
  have q2 := iface_eql
  have q3 := nil_eql
  have q4 := nil_neq
  have CS := Lib.hid (fun (X : World) (hX : Below W.heap.size W X) => small_any W.heap.size (.agg #[.int .i64 k, .int .i64 n0, .int .i64 n1, .int .i64 n2, .int .i64 n3, .int .i64 n4, .int .i64 n5, .slice ca ch.length ck, .slice sa si.length sk, .slice ba bo.length bk, .slice ma mk.length mc, .slice ea en.length ec, .slice va ev.length vk, .string b.stream, .int .i64 b.expect, .int .i64 b.session, .int .i64 b.seq, .slice la b.events.length lk, .string st]) ⟨k, n0, n1, n2, n3, n4, n5, ch, si, bo, mk, en, ev, b, st⟩ ⟨.slice ca ch.length ck, .slice sa si.length sk, .slice ba bo.length bk, .slice ma mk.length mc, .slice ea en.length ec, .slice va ev.length vk, .slice la b.events.length lk⟩ X rfl (h.keep hX (Nat.le_refl _)) hX.size hsz)
  have CM := Lib.hid (fun (X : World) (hX : Below W.heap.size W X) => made_any W.heap.size (.agg #[.int .i64 k, .int .i64 n0, .int .i64 n1, .int .i64 n2, .int .i64 n3, .int .i64 n4, .int .i64 n5, .slice ca ch.length ck, .slice sa si.length sk, .slice ba bo.length bk, .slice ma mk.length mc, .slice ea en.length ec, .slice va ev.length vk, .string b.stream, .int .i64 b.expect, .int .i64 b.session, .int .i64 b.seq, .slice la b.events.length lk, .string st]) ⟨k, n0, n1, n2, n3, n4, n5, ch, si, bo, mk, en, ev, b, st⟩ ⟨.slice ca ch.length ck, .slice sa si.length sk, .slice ba bo.length bk, .slice ma mk.length mc, .slice ea en.length ec, .slice va ev.length vk, .slice la b.events.length lk⟩ _ hm X rfl (h.keep hX (Nat.le_refl _)) hX.size)
  have HA := Lib.hid ((Below.refl W.heap.size W).alloc (Nat.le_refl _) (.cells #[.int .i64 k, .int .i64 n0, .int .i64 n1, .int .i64 n2, .int .i64 n3, .int .i64 n4, .int .i64 n5, .slice ca ch.length ck, .slice sa si.length sk, .slice ba bo.length bk, .slice ma mk.length mc, .slice ea en.length ec, .slice va ev.length vk, .string b.stream, .int .i64 b.expect, .int .i64 b.session, .int .i64 b.seq, .slice la b.events.length lk, .string st] 30))
  have HB0 := Lib.hid (bx_new (w := W) (.cells #[.int .i64 k, .int .i64 n0, .int .i64 n1, .int .i64 n2, .int .i64 n3, .int .i64 n4, .int .i64 n5, .slice ca ch.length ck, .slice sa si.length sk, .slice ba bo.length bk, .slice ma mk.length mc, .slice ea en.length ec, .slice va ev.length vk, .string b.stream, .int .i64 b.expect, .int .i64 b.session, .int .i64 b.seq, .slice la b.events.length lk, .string st] 30))
  have HMM := Lib.hid hm
  clear h hsz hT hm
  go_enter Tryz.func3, Tryz.ntmps3
  go_wp2_with fail
  refine (shown_any _ (tabs_below HT.out HA.out)).mono ?_
  rintro r w1 ⟨rfl, hb1⟩
  have HRG := Lib.hid (bx_more HB0.out hb1)
  clear hb1
  go_wp2_with (refine wpList_load_mid rfl 30 _ rfl W.heap.size 0 (by rfl) [.int .i64 k, .int .i64 n0, .int .i64 n1, .int .i64 n2, .int .i64 n3, .int .i64 n4, .int .i64 n5, .slice ca ch.length ck, .slice sa si.length sk, .slice ba bo.length bk, .slice ma mk.length mc, .slice ea en.length ec, .slice va ev.length vk, .string b.stream, .int .i64 b.expect, .int .i64 b.session, .int .i64 b.seq, .slice la b.events.length lk, .string st] _ (box_range HRG.out) Tryz.underlying30 rfl (by kernel_rfl) ?_)
  refine (CS.out _ (bx_below HRG.out)).mono ?_
  rintro r w2 ⟨q, rfl, hq, hb2⟩
  have HQ := Lib.hid hq
  replace HRG := Lib.hid (bx_more HRG.out hb2)
  clear hb2 hq
  go_wp2_with (refine wpList_load_mid rfl 30 _ rfl W.heap.size 0 (by rfl) [.int .i64 k, .int .i64 n0, .int .i64 n1, .int .i64 n2, .int .i64 n3, .int .i64 n4, .int .i64 n5, .slice ca ch.length ck, .slice sa si.length sk, .slice ba bo.length bk, .slice ma mk.length mc, .slice ea en.length ec, .slice va ev.length vk, .string b.stream, .int .i64 b.expect, .int .i64 b.session, .int .i64 b.seq, .slice la b.events.length lk, .string st] _ (box_range HRG.out) Tryz.underlying30 rfl (by kernel_rfl) ?_)
  refine (CM.out _ (bx_below HRG.out)).mono ?_
  rintro r w3 ⟨v3, rfl, hn3, hm3, hb3⟩
  replace HRG := Lib.hid (bx_more HRG.out hb3)
  clear hb3
  cases q with
  | false =>
    go_wp2_with fail
    go_ret
    exact ⟨rfl, bx_below HRG.out⟩
  | true =>
  cases xm with
  | none =>
    obtain rfl := hn3 rfl
    go_wp2_with fail
    go_ret
    exact ⟨rfl, bx_below HRG.out⟩
  | some m =>
  have HM := Lib.hid (hm3 m rfl)
  obtain ⟨Tv, pv, Fv, rfl, hmt, hcf, hc⟩ := hasKind HM.out
  have HC := Lib.hid hc
  have HL := Lib.hid (made_light (HQ.out rfl) HMM.out)
  have HBG := Lib.hid (made_big (HQ.out rfl) HMM.out)
  have hkd : (m.kind : Int) = k := made_kind HMM.out
  rw [hkd] at HC
  have CF := Lib.hid (fun (X : World) (u : Value) (B : Nat) (hu : IsMsg B X u m) (hB : B ≤ X.heap.size) => flat_any B u m X hu hB)
  clear hn3 hm3 hc HQ HMM CS CM hkd
  go_wp2_with fail
  refine (CF.out _ _ _ HM.out (Nat.le_refl _)).mono ?_
  rintro r w4 ⟨v4, rfl, hf, hb4⟩
  replace HRG := Lib.hid (bx_more HRG.out hb4)
  have HM4 := Lib.hid (HM.out.keep hb4 (Nat.le_refl _))
  have HZ4 := Lib.hid hb4.size
  obtain ⟨q, hq⟩ : ∃ q, rightM m = q := ⟨_, rfl⟩
  obtain ⟨sp, hsp⟩ : ∃ s, putM m = s := ⟨_, rfl⟩
  obtain ⟨n, hn⟩ : ∃ n, epochM m = n := ⟨_, rfl⟩
  have D1 := Lib.hid (fun (X : World) (u : Value) (B : Nat) (hu : IsMsg B X u m) (hB : B ≤ X.heap.size) (hX : Below W.heap.size W X) => rightM_any B u m q hq X hu hB (tabs_below HT.out hX) HL.out)
  have D2 := Lib.hid (fun (X : World) (u : Value) (B : Nat) (hu : IsFlat B X u (flatM m)) (hB : B ≤ X.heap.size) => refRightM_any B u m q hq X hu hB HBG.out)
  have D3 := Lib.hid (fun (X : World) (u : Value) (B : Nat) (hu : IsMsg B X u m) (hB : B ≤ X.heap.size) (hX : Below W.heap.size W X) => putM_any B u m sp hsp X hu hB (tabs_below HT.out hX) HL.out)
  have D4 := Lib.hid (fun (X : World) (u : Value) (B : Nat) (hu : IsFlat B X u (flatM m)) (hB : B ≤ X.heap.size) => refPutM_any B u m sp hsp X hu hB HBG.out HL.out)
  have D5 := Lib.hid (fun (X : World) (u : Value) (B : Nat) (hu : IsMsg B X u m) (hB : B ≤ X.heap.size) (hX : Below W.heap.size W X) => epochM_any B u m n hn X hu hB (tabs_below HT.out hX) HL.out)
  have D6 := Lib.hid (fun (X : World) (u : Value) (B : Nat) (hu : IsFlat B X u (flatM m)) (hB : B ≤ X.heap.size) => refEpochM_any B u m n hn X hu hB HBG.out)
  clear hb4 hq hsp hn CF HM HL HBG
  obtain ⟨fl, hfl⟩ : ∃ f, flatM m = f := ⟨_, rfl⟩
  rw [hfl] at hf D2 D4 D6
  have HF := Lib.hid hf
  obtain ⟨nv, cv, sv, bv, mv, ev', vv, lv, rfl, p1, p2, p3, p4, p5, p6, p7, p8⟩ := hf
  obtain ⟨pa1, pc1, rfl⟩ := p1.form
  obtain ⟨pa2, pc2, rfl⟩ := p2.form
  obtain ⟨pa3, pc3, rfl⟩ := p3.form
  obtain ⟨pa4, pc4, rfl⟩ := p4.form
  obtain ⟨pa5, pc5, rfl⟩ := p5.form
  obtain ⟨pa6, pc6, rfl⟩ := p6.form
  obtain ⟨pa7, pc7, rfl⟩ := p7.form
  obtain ⟨pa8, pc8, rfl⟩ := p8.form
  clear p1 p2 p3 p4 p5 p6 p7 p8 hfl
  have HX := Lib.hid (HRG.out.alloc (by have h1 := HRG.out.size; simpa using h1) (.cells #[.int .i64 fl.kind, .slice pa1 fl.nums.length pc1, .slice pa2 fl.chain.length pc2, .slice pa3 fl.since.length pc3, .slice pa4 fl.boot.length pc4, .slice pa5 fl.marks.length pc5, .slice pa6 fl.entries.length pc6, .slice pa7 fl.events.length pc7, .string fl.b.stream, .int .i64 fl.b.expect, .int .i64 fl.b.session, .int .i64 fl.b.seq, .slice pa8 fl.b.events.length pc8, .string fl.stream] 37))
  have HA4 := Lib.hid ((Below.refl w4.heap.size w4).alloc (Nat.le_refl _) (.cells #[.int .i64 fl.kind, .slice pa1 fl.nums.length pc1, .slice pa2 fl.chain.length pc2, .slice pa3 fl.since.length pc3, .slice pa4 fl.boot.length pc4, .slice pa5 fl.marks.length pc5, .slice pa6 fl.entries.length pc6, .slice pa7 fl.events.length pc7, .string fl.b.stream, .int .i64 fl.b.expect, .int .i64 fl.b.session, .int .i64 fl.b.seq, .slice pa8 fl.b.events.length pc8, .string fl.stream] 37))
  have HG := Lib.hid (heap_alloc_new w4 (.cells #[.int .i64 fl.kind, .slice pa1 fl.nums.length pc1, .slice pa2 fl.chain.length pc2, .slice pa3 fl.since.length pc3, .slice pa4 fl.boot.length pc4, .slice pa5 fl.marks.length pc5, .slice pa6 fl.entries.length pc6, .slice pa7 fl.events.length pc7, .string fl.b.stream, .int .i64 fl.b.expect, .int .i64 fl.b.session, .int .i64 fl.b.seq, .slice pa8 fl.b.events.length pc8, .string fl.stream] 37))
  go_upto_region 7 with fail
  generalize w4.alloc (.cells #[.int .i64 fl.kind, .slice pa1 fl.nums.length pc1, .slice pa2 fl.chain.length pc2, .slice pa3 fl.since.length pc3, .slice pa4 fl.boot.length pc4, .slice pa5 fl.marks.length pc5, .slice pa6 fl.entries.length pc6, .slice pa7 fl.events.length pc7, .string fl.b.stream, .int .i64 fl.b.expect, .int .i64 fl.b.session, .int .i64 fl.b.seq, .slice pa8 fl.b.events.length pc8, .string fl.stream] 37) = wm at *
  generalize w4.heap.size = g at *
  have HGL := Lib.hid (Array.getElem?_eq_some_iff.1 HG.out).1
  have HW := Lib.hid (bx_below HX.out)
  have MKS := Lib.hid (fun (X' : World) (hb : Below wm.heap.size wm X') => (show X'.heap[g]? = some (.cells #[.int .i64 fl.kind, .slice pa1 fl.nums.length pc1, .slice pa2 fl.chain.length pc2, .slice pa3 fl.since.length pc3, .slice pa4 fl.boot.length pc4, .slice pa5 fl.marks.length pc5, .slice pa6 fl.entries.length pc6, .slice pa7 fl.events.length pc7, .string fl.b.stream, .int .i64 fl.b.expect, .int .i64 fl.b.session, .int .i64 fl.b.seq, .slice pa8 fl.b.events.length pc8, .string fl.stream] 37) ∧ X'.cell? ⟨W.heap.size, 0, none⟩ = some (.int .i64 k) ∧ Below (W.heap.size + 1) (W.alloc (.cells #[.int .i64 k, .int .i64 n0, .int .i64 n1, .int .i64 n2, .int .i64 n3, .int .i64 n4, .int .i64 n5, .slice ca ch.length ck, .slice sa si.length sk, .slice ba bo.length bk, .slice ma mk.length mc, .slice ea en.length ec, .slice va ev.length vk, .string b.stream, .int .i64 b.expect, .int .i64 b.session, .int .i64 b.seq, .slice la b.events.length lk, .string st] 30)) X' from ⟨(hb.block g HGL.out).trans HG.out, box19 (HX.out.trans (hb.mono (by have h1 := HX.out.size; simpa using h1))) 0 _ rfl, HX.out.trans (hb.mono (by have h1 := HX.out.size; simpa using h1))⟩))
  have HMM2 := Lib.hid (HM4.out.keep HA4.out HZ4.out)
  have HFM := Lib.hid ((HF.out.keep HA4.out (Nat.le_refl _)).up (Nat.le_of_lt HGL.out))
  have C1 := Lib.hid (fun (X : World) (hb : Below wm.heap.size wm X) => D1.out X _ _ (HMM2.out.keep hb (Nat.le_trans HZ4.out (Nat.le_of_lt HGL.out))) (Nat.le_trans (Nat.le_trans HZ4.out (Nat.le_of_lt HGL.out)) hb.size) (bstep HW.out hb))
  have C2 := Lib.hid (fun (X : World) (hb : Below wm.heap.size wm X) => D2.out X _ _ (HFM.out.keep hb (Nat.le_refl _)) hb.size)
  have C3 := Lib.hid (fun (X : World) (hb : Below wm.heap.size wm X) => D3.out X _ _ (HMM2.out.keep hb (Nat.le_trans HZ4.out (Nat.le_of_lt HGL.out))) (Nat.le_trans (Nat.le_trans HZ4.out (Nat.le_of_lt HGL.out)) hb.size) (bstep HW.out hb))
  have C4 := Lib.hid (fun (X : World) (hb : Below wm.heap.size wm X) => D4.out X _ _ (HFM.out.keep hb (Nat.le_refl _)) hb.size)
  have C5 := Lib.hid (fun (X : World) (hb : Below wm.heap.size wm X) => D5.out X _ _ (HMM2.out.keep hb (Nat.le_trans HZ4.out (Nat.le_of_lt HGL.out))) (Nat.le_trans (Nat.le_trans HZ4.out (Nat.le_of_lt HGL.out)) hb.size) (bstep HW.out hb))
  have C6 := Lib.hid (fun (X : World) (hb : Below wm.heap.size wm X) => D6.out X _ _ (HFM.out.keep hb (Nat.le_refl _)) hb.size)
  have gS : (sp.toList == sp.toList) = true := beq_self_eq_true _
  have gN : (n == n) = true := beq_self_eq_true _
  have gK : (k == k) = true := beq_self_eq_true _
  clear D1 D2 D3 D4 D5 D6 HF HFM HM4 HMM2 HA4 HG HRG
  cases q with
  | true =>
    refine region_begin (S := fun X' => X'.heap[g]? = some (.cells #[.int .i64 fl.kind, .slice pa1 fl.nums.length pc1, .slice pa2 fl.chain.length pc2, .slice pa3 fl.since.length pc3, .slice pa4 fl.boot.length pc4, .slice pa5 fl.marks.length pc5, .slice pa6 fl.entries.length pc6, .slice pa7 fl.events.length pc7, .string fl.b.stream, .int .i64 fl.b.expect, .int .i64 fl.b.session, .int .i64 fl.b.seq, .slice pa8 fl.b.events.length pc8, .string fl.stream] 37) ∧ X'.cell? ⟨W.heap.size, 0, none⟩ = some (.int .i64 k) ∧ Below (W.heap.size + 1) (W.alloc (.cells #[.int .i64 k, .int .i64 n0, .int .i64 n1, .int .i64 n2, .int .i64 n3, .int .i64 n4, .int .i64 n5, .slice ca ch.length ck, .slice sa si.length sk, .slice ba bo.length bk, .slice ma mk.length mc, .slice ea en.length ec, .slice va ev.length vk, .string b.stream, .int .i64 b.expect, .int .i64 b.session, .int .i64 b.seq, .slice la b.events.length lk, .string st] 30)) X') 30 rfl (by kernel_rfl) (MKS.out _ (Below.refl wm.heap.size wm).drew) (fun hH0 => ?_)
    refine wpAnyH_take (i := 0) (oi := ?ot0) (v := ?vt0) ?hit0 (by kernel_rfl) (by kernel_rfl) (by kernel_rfl) ?hQt0 ?hyt0 hH0 ?_
    case hit0 => simp only [List.getElem?_toArray, List.getElem?_cons_zero]; rfl
    case hQt0 => exact fun _ _ _ h => h
    case hyt0 => refine Or.inl ⟨by rfl, ?_⟩; intro W hSw; (try dsimp only at hSw); go_simp; try with_reducible rfl
    simp only [Act.put, List.setIfInBounds_toArray, List.set_cons_zero, List.set_cons_succ]
    refine wpAnyH_take (i := 1) (oi := ?ot1) (v := ?vt1) ?hit1 (by kernel_rfl) (by kernel_rfl) (by kernel_rfl) ?hQt1 ?hyt1 hH0 ?_
    case hit1 => simp only [List.getElem?_toArray, List.getElem?_cons_zero, List.getElem?_cons_succ]; rfl
    case hQt1 => exact fun _ _ _ h => h
    case hyt1 => refine Or.inl ⟨by rfl, ?_⟩; intro W hSw; (try dsimp only at hSw); go_simp; try with_reducible rfl
    simp only [Act.put, List.setIfInBounds_toArray, List.set_cons_zero, List.set_cons_succ]
    refine wpAnyH_take (i := 2) (oi := ?ot2) (v := ?vt2) ?hit2 (by kernel_rfl) (by kernel_rfl) (by kernel_rfl) ?hQt2 ?hyt2 hH0 ?_
    case hit2 => simp only [List.getElem?_toArray, List.getElem?_cons_zero, List.getElem?_cons_succ]; rfl
    case hQt2 => exact fun _ _ _ h => h
    case hyt2 => refine Or.inl ⟨by rfl, ?_⟩; intro W hSw; (try dsimp only at hSw); go_simp; try with_reducible rfl
    simp only [Act.put, List.setIfInBounds_toArray, List.set_cons_zero, List.set_cons_succ]
    refine wpAnyH_take (i := 4) (oi := ?ot4) (v := ?vt4) ?hit4 (by kernel_rfl) (by kernel_rfl) (by kernel_rfl) ?hQt4 ?hyt4 hH0 ?_
    case hit4 => simp only [List.getElem?_toArray, List.getElem?_cons_zero, List.getElem?_cons_succ]; rfl
    case hQt4 => exact fun _ _ _ h => h
    case hyt4 =>
      refine Or.inl ⟨by rfl, ?_⟩
      intro W' hSw
      have z0 : W'.cell? ⟨g, 0, none⟩ = some (.int .i64 fl.kind) := Lib.cell_of_heap hSw.1 0
      have z1 : W'.cell? ⟨g, 1, none⟩ = some (.slice pa1 fl.nums.length pc1) := Lib.cell_of_heap hSw.1 1
      have z2 : W'.cell? ⟨g, 2, none⟩ = some (.slice pa2 fl.chain.length pc2) := Lib.cell_of_heap hSw.1 2
      have z3 : W'.cell? ⟨g, 3, none⟩ = some (.slice pa3 fl.since.length pc3) := Lib.cell_of_heap hSw.1 3
      have z4 : W'.cell? ⟨g, 4, none⟩ = some (.slice pa4 fl.boot.length pc4) := Lib.cell_of_heap hSw.1 4
      have z5 : W'.cell? ⟨g, 5, none⟩ = some (.slice pa5 fl.marks.length pc5) := Lib.cell_of_heap hSw.1 5
      have z6 : W'.cell? ⟨g, 6, none⟩ = some (.slice pa6 fl.entries.length pc6) := Lib.cell_of_heap hSw.1 6
      have z7 : W'.cell? ⟨g, 7, none⟩ = some (.slice pa7 fl.events.length pc7) := Lib.cell_of_heap hSw.1 7
      have z8 : W'.cell? ⟨g, 8, none⟩ = some (.string fl.b.stream) := Lib.cell_of_heap hSw.1 8
      have z9 : W'.cell? ⟨g, 9, none⟩ = some (.int .i64 fl.b.expect) := Lib.cell_of_heap hSw.1 9
      have z10 : W'.cell? ⟨g, 10, none⟩ = some (.int .i64 fl.b.session) := Lib.cell_of_heap hSw.1 10
      have z11 : W'.cell? ⟨g, 11, none⟩ = some (.int .i64 fl.b.seq) := Lib.cell_of_heap hSw.1 11
      have z12 : W'.cell? ⟨g, 12, none⟩ = some (.slice pa8 fl.b.events.length pc8) := Lib.cell_of_heap hSw.1 12
      have z13 : W'.cell? ⟨g, 13, none⟩ = some (.string fl.stream) := Lib.cell_of_heap hSw.1 13
      clear hSw
      go_simp
      try with_reducible rfl
    simp only [Act.put, List.setIfInBounds_toArray, List.set_cons_zero, List.set_cons_succ]
    clear hH0
    have HD20 := Lib.hid (Below.refl wm.heap.size wm).drew
    generalize wm.drew = w20 at *
    refine wpAnyH_ready (rs := [3]) (by kernel_rfl) (by simp) ?_
    refine AllReadyH.cons (o := ?ot3) ?hot3 (fun K' hK => ?_) AllReadyH.nil
    case hot3 => simp only [List.getElem?_toArray, List.getElem?_cons_zero, List.getElem?_cons_succ]; rfl
    go_simp
    refine (C1.out _ HD20.out).mono ?_
    rintro r w21 ⟨rfl, hb21⟩
    have HD21 := Lib.hid (HD20.out.trans (hb21.mono HD20.out.size))
    clear hb21
    refine hK.out _ _ (MKS.out _ HD21.out) (fun hH21 => ?_)
    clear hK K'
    (try simp only [Act.put, List.setIfInBounds_toArray, List.set_cons_zero, List.set_cons_succ])
    clear hH21
    refine wpAnyH_ready (rs := [5]) (by kernel_rfl) (by simp) ?_
    refine AllReadyH.cons (o := ?ot5) ?hot5 (fun K' hK => ?_) AllReadyH.nil
    case hot5 => simp only [List.getElem?_toArray, List.getElem?_cons_zero, List.getElem?_cons_succ]; rfl
    go_simp
    refine (C2.out _ HD21.out).mono ?_
    rintro r w22 ⟨rfl, hb22⟩
    have HD22 := Lib.hid (HD21.out.trans (hb22.mono HD21.out.size))
    clear hb22
    refine hK.out _ _ (MKS.out _ HD22.out) (fun hH22 => ?_)
    clear hK K'
    (try simp only [Act.put, List.setIfInBounds_toArray, List.set_cons_zero, List.set_cons_succ])
    refine wpAnyH_take (i := 6) (oi := ?ot6) (v := ?vt6) ?hit6 (by kernel_rfl) (by kernel_rfl) (by kernel_rfl) ?hQt6 ?hyt6 hH22 ?_
    case hit6 => simp only [List.getElem?_toArray, List.getElem?_cons_zero, List.getElem?_cons_succ]; rfl
    case hQt6 => exact fun _ _ _ h => h
    case hyt6 => refine Or.inl ⟨by rfl, ?_⟩; intro W hSw; (try dsimp only at hSw); go_simp; try with_reducible rfl
    simp only [Act.put, List.setIfInBounds_toArray, List.set_cons_zero, List.set_cons_succ]
    refine wpAnyH_take (i := 7) (oi := ?ot7) (v := ?vt7) ?hit7 (by kernel_rfl) (by kernel_rfl) (by kernel_rfl) ?hQt7 ?hyt7 hH22 ?_
    case hit7 => simp only [List.getElem?_toArray, List.getElem?_cons_zero, List.getElem?_cons_succ]; rfl
    case hQt7 => exact fun _ _ _ h => h
    case hyt7 => refine Or.inl ⟨by rfl, ?_⟩; intro W hSw; (try dsimp only at hSw); go_simp; try with_reducible rfl
    simp only [Act.put, List.setIfInBounds_toArray, List.set_cons_zero, List.set_cons_succ]
    refine wpAnyH_take (i := 8) (oi := ?ot8) (v := ?vt8) ?hit8 (by kernel_rfl) (by kernel_rfl) (by kernel_rfl) ?hQt8 ?hyt8 hH22 ?_
    case hit8 => simp only [List.getElem?_toArray, List.getElem?_cons_zero, List.getElem?_cons_succ]; rfl
    case hQt8 => exact fun _ _ _ h => h
    case hyt8 => refine Or.inl ⟨by rfl, ?_⟩; intro W hSw; (try dsimp only at hSw); go_simp; try with_reducible rfl
    simp only [Act.put, List.setIfInBounds_toArray, List.set_cons_zero, List.set_cons_succ]
    refine wpAnyH_take (i := 9) (oi := ?ot9) (v := ?vt9) ?hit9 (by kernel_rfl) (by kernel_rfl) (by kernel_rfl) ?hQt9 ?hyt9 hH22 ?_
    case hit9 => simp only [List.getElem?_toArray, List.getElem?_cons_zero, List.getElem?_cons_succ]; rfl
    case hQt9 => exact fun _ _ _ h => h
    case hyt9 => refine Or.inl ⟨by rfl, ?_⟩; intro W hSw; (try dsimp only at hSw); go_simp; try with_reducible rfl
    simp only [Act.put, List.setIfInBounds_toArray, List.set_cons_zero, List.set_cons_succ]
    refine wpAnyH_take (i := 11) (oi := ?ot11) (v := ?vt11) ?hit11 (by kernel_rfl) (by kernel_rfl) (by kernel_rfl) ?hQt11 ?hyt11 hH22 ?_
    case hit11 => simp only [List.getElem?_toArray, List.getElem?_cons_zero, List.getElem?_cons_succ]; rfl
    case hQt11 => exact fun _ _ _ h => h
    case hyt11 =>
      refine Or.inl ⟨by rfl, ?_⟩
      intro W' hSw
      have z0 : W'.cell? ⟨g, 0, none⟩ = some (.int .i64 fl.kind) := Lib.cell_of_heap hSw.1 0
      have z1 : W'.cell? ⟨g, 1, none⟩ = some (.slice pa1 fl.nums.length pc1) := Lib.cell_of_heap hSw.1 1
      have z2 : W'.cell? ⟨g, 2, none⟩ = some (.slice pa2 fl.chain.length pc2) := Lib.cell_of_heap hSw.1 2
      have z3 : W'.cell? ⟨g, 3, none⟩ = some (.slice pa3 fl.since.length pc3) := Lib.cell_of_heap hSw.1 3
      have z4 : W'.cell? ⟨g, 4, none⟩ = some (.slice pa4 fl.boot.length pc4) := Lib.cell_of_heap hSw.1 4
      have z5 : W'.cell? ⟨g, 5, none⟩ = some (.slice pa5 fl.marks.length pc5) := Lib.cell_of_heap hSw.1 5
      have z6 : W'.cell? ⟨g, 6, none⟩ = some (.slice pa6 fl.entries.length pc6) := Lib.cell_of_heap hSw.1 6
      have z7 : W'.cell? ⟨g, 7, none⟩ = some (.slice pa7 fl.events.length pc7) := Lib.cell_of_heap hSw.1 7
      have z8 : W'.cell? ⟨g, 8, none⟩ = some (.string fl.b.stream) := Lib.cell_of_heap hSw.1 8
      have z9 : W'.cell? ⟨g, 9, none⟩ = some (.int .i64 fl.b.expect) := Lib.cell_of_heap hSw.1 9
      have z10 : W'.cell? ⟨g, 10, none⟩ = some (.int .i64 fl.b.session) := Lib.cell_of_heap hSw.1 10
      have z11 : W'.cell? ⟨g, 11, none⟩ = some (.int .i64 fl.b.seq) := Lib.cell_of_heap hSw.1 11
      have z12 : W'.cell? ⟨g, 12, none⟩ = some (.slice pa8 fl.b.events.length pc8) := Lib.cell_of_heap hSw.1 12
      have z13 : W'.cell? ⟨g, 13, none⟩ = some (.string fl.stream) := Lib.cell_of_heap hSw.1 13
      clear hSw
      go_simp
      try with_reducible rfl
    simp only [Act.put, List.setIfInBounds_toArray, List.set_cons_zero, List.set_cons_succ]
    clear hH22
    refine wpAnyH_ready (rs := [10]) (by kernel_rfl) (by simp) ?_
    refine AllReadyH.cons (o := ?ot10) ?hot10 (fun K' hK => ?_) AllReadyH.nil
    case hot10 => simp only [List.getElem?_toArray, List.getElem?_cons_zero, List.getElem?_cons_succ]; rfl
    go_simp
    refine (C3.out _ HD22.out).mono ?_
    rintro r w23 ⟨rfl, hb23⟩
    have HD23 := Lib.hid (HD22.out.trans (hb23.mono HD22.out.size))
    clear hb23
    refine hK.out _ _ (MKS.out _ HD23.out) (fun hH23 => ?_)
    clear hK K'
    (try simp only [Act.put, List.setIfInBounds_toArray, List.set_cons_zero, List.set_cons_succ])
    clear hH23
    refine wpAnyH_ready (rs := [12]) (by kernel_rfl) (by simp) ?_
    refine AllReadyH.cons (o := ?ot12) ?hot12 (fun K' hK => ?_) AllReadyH.nil
    case hot12 => simp only [List.getElem?_toArray, List.getElem?_cons_zero, List.getElem?_cons_succ]; rfl
    go_simp
    refine (C4.out _ HD23.out).mono ?_
    rintro r w24 ⟨rfl, hb24⟩
    have HD24 := Lib.hid (HD23.out.trans (hb24.mono HD23.out.size))
    clear hb24
    refine hK.out _ _ (MKS.out _ HD24.out) (fun hH24 => ?_)
    clear hK K'
    (try simp only [Act.put, List.setIfInBounds_toArray, List.set_cons_zero, List.set_cons_succ])
    refine wpAnyH_take (i := 13) (oi := ?ot13) (v := ?vt13) ?hit13 (by kernel_rfl) (by kernel_rfl) (by kernel_rfl) ?hQt13 ?hyt13 hH24 ?_
    case hit13 => simp only [List.getElem?_toArray, List.getElem?_cons_zero, List.getElem?_cons_succ]; rfl
    case hQt13 => exact fun _ _ _ h => h
    case hyt13 => refine Or.inl ⟨by rfl, ?_⟩; intro W hSw; (try dsimp only at hSw); go_simp; try with_reducible rfl
    simp only [Act.put, List.setIfInBounds_toArray, List.set_cons_zero, List.set_cons_succ]
    refine wpAnyH_take (i := 14) (oi := ?ot14) (v := ?vt14) ?hit14 (by kernel_rfl) (by kernel_rfl) (by kernel_rfl) ?hQt14 ?hyt14 hH24 ?_
    case hit14 => simp only [List.getElem?_toArray, List.getElem?_cons_zero, List.getElem?_cons_succ]; rfl
    case hQt14 => exact fun _ _ _ h => h
    case hyt14 => refine Or.inl ⟨by rfl, ?_⟩; intro W hSw; (try dsimp only at hSw); go_simp; try with_reducible rfl
    simp only [Act.put, List.setIfInBounds_toArray, List.set_cons_zero, List.set_cons_succ]
    refine wpAnyH_take (i := 15) (oi := ?ot15) (v := ?vt15) ?hit15 (by kernel_rfl) (by kernel_rfl) (by kernel_rfl) ?hQt15 ?hyt15 hH24 ?_
    case hit15 => simp only [List.getElem?_toArray, List.getElem?_cons_zero, List.getElem?_cons_succ]; rfl
    case hQt15 => exact fun _ _ _ h => h
    case hyt15 => refine Or.inl ⟨by rfl, ?_⟩; intro W hSw; (try dsimp only at hSw); go_simp; try with_reducible rfl
    simp only [Act.put, List.setIfInBounds_toArray, List.set_cons_zero, List.set_cons_succ]
    refine wpAnyH_take (i := 16) (oi := ?ot16) (v := ?vt16) ?hit16 (by kernel_rfl) (by kernel_rfl) (by kernel_rfl) ?hQt16 ?hyt16 hH24 ?_
    case hit16 => simp only [List.getElem?_toArray, List.getElem?_cons_zero, List.getElem?_cons_succ]; rfl
    case hQt16 => exact fun _ _ _ h => h
    case hyt16 => refine Or.inl ⟨by rfl, ?_⟩; intro W hSw; (try dsimp only at hSw); go_simp; try with_reducible rfl
    simp only [Act.put, List.setIfInBounds_toArray, List.set_cons_zero, List.set_cons_succ]
    refine wpAnyH_take (i := 18) (oi := ?ot18) (v := ?vt18) ?hit18 (by kernel_rfl) (by kernel_rfl) (by kernel_rfl) ?hQt18 ?hyt18 hH24 ?_
    case hit18 => simp only [List.getElem?_toArray, List.getElem?_cons_zero, List.getElem?_cons_succ]; rfl
    case hQt18 => exact fun _ _ _ h => h
    case hyt18 =>
      refine Or.inl ⟨by rfl, ?_⟩
      intro W' hSw
      have z0 : W'.cell? ⟨g, 0, none⟩ = some (.int .i64 fl.kind) := Lib.cell_of_heap hSw.1 0
      have z1 : W'.cell? ⟨g, 1, none⟩ = some (.slice pa1 fl.nums.length pc1) := Lib.cell_of_heap hSw.1 1
      have z2 : W'.cell? ⟨g, 2, none⟩ = some (.slice pa2 fl.chain.length pc2) := Lib.cell_of_heap hSw.1 2
      have z3 : W'.cell? ⟨g, 3, none⟩ = some (.slice pa3 fl.since.length pc3) := Lib.cell_of_heap hSw.1 3
      have z4 : W'.cell? ⟨g, 4, none⟩ = some (.slice pa4 fl.boot.length pc4) := Lib.cell_of_heap hSw.1 4
      have z5 : W'.cell? ⟨g, 5, none⟩ = some (.slice pa5 fl.marks.length pc5) := Lib.cell_of_heap hSw.1 5
      have z6 : W'.cell? ⟨g, 6, none⟩ = some (.slice pa6 fl.entries.length pc6) := Lib.cell_of_heap hSw.1 6
      have z7 : W'.cell? ⟨g, 7, none⟩ = some (.slice pa7 fl.events.length pc7) := Lib.cell_of_heap hSw.1 7
      have z8 : W'.cell? ⟨g, 8, none⟩ = some (.string fl.b.stream) := Lib.cell_of_heap hSw.1 8
      have z9 : W'.cell? ⟨g, 9, none⟩ = some (.int .i64 fl.b.expect) := Lib.cell_of_heap hSw.1 9
      have z10 : W'.cell? ⟨g, 10, none⟩ = some (.int .i64 fl.b.session) := Lib.cell_of_heap hSw.1 10
      have z11 : W'.cell? ⟨g, 11, none⟩ = some (.int .i64 fl.b.seq) := Lib.cell_of_heap hSw.1 11
      have z12 : W'.cell? ⟨g, 12, none⟩ = some (.slice pa8 fl.b.events.length pc8) := Lib.cell_of_heap hSw.1 12
      have z13 : W'.cell? ⟨g, 13, none⟩ = some (.string fl.stream) := Lib.cell_of_heap hSw.1 13
      clear hSw
      go_simp
      try with_reducible rfl
    simp only [Act.put, List.setIfInBounds_toArray, List.set_cons_zero, List.set_cons_succ]
    clear hH24
    refine wpAnyH_ready (rs := [17]) (by kernel_rfl) (by simp) ?_
    refine AllReadyH.cons (o := ?ot17) ?hot17 (fun K' hK => ?_) AllReadyH.nil
    case hot17 => simp only [List.getElem?_toArray, List.getElem?_cons_zero, List.getElem?_cons_succ]; rfl
    go_simp
    refine (C5.out _ HD24.out).mono ?_
    rintro r w25 ⟨rfl, hb25⟩
    have HD25 := Lib.hid (HD24.out.trans (hb25.mono HD24.out.size))
    clear hb25
    refine hK.out _ _ (MKS.out _ HD25.out) (fun hH25 => ?_)
    clear hK K'
    (try simp only [Act.put, List.setIfInBounds_toArray, List.set_cons_zero, List.set_cons_succ])
    clear hH25
    refine wpAnyH_ready (rs := [19]) (by kernel_rfl) (by simp) ?_
    refine AllReadyH.cons (o := ?ot19) ?hot19 (fun K' hK => ?_) AllReadyH.nil
    case hot19 => simp only [List.getElem?_toArray, List.getElem?_cons_zero, List.getElem?_cons_succ]; rfl
    go_simp
    refine (C6.out _ HD25.out).mono ?_
    rintro r w26 ⟨rfl, hb26⟩
    have HD26 := Lib.hid (HD25.out.trans (hb26.mono HD25.out.size))
    clear hb26
    refine hK.out _ _ (MKS.out _ HD26.out) (fun hH26 => ?_)
    clear hK K'
    (try simp only [Act.put, List.setIfInBounds_toArray, List.set_cons_zero, List.set_cons_succ])
    refine wpAnyH_take (i := 20) (oi := ?ot20) (v := ?vt20) ?hit20 (by kernel_rfl) (by kernel_rfl) (by kernel_rfl) ?hQt20 ?hyt20 hH26 ?_
    case hit20 => simp only [List.getElem?_toArray, List.getElem?_cons_zero, List.getElem?_cons_succ]; rfl
    case hQt20 => exact fun _ _ _ h => h
    case hyt20 => refine Or.inl ⟨by rfl, ?_⟩; intro W hSw; (try dsimp only at hSw); go_simp; try with_reducible rfl
    simp only [Act.put, List.setIfInBounds_toArray, List.set_cons_zero, List.set_cons_succ]
    refine wpAnyH_take (i := 21) (oi := ?ot21) (v := ?vt21) ?hit21 (by kernel_rfl) (by kernel_rfl) (by kernel_rfl) ?hQt21 ?hyt21 hH26 ?_
    case hit21 => simp only [List.getElem?_toArray, List.getElem?_cons_zero, List.getElem?_cons_succ]; rfl
    case hQt21 => exact fun _ _ _ h => h
    case hyt21 => refine Or.inl ⟨by rfl, ?_⟩; intro W hSw; (try dsimp only at hSw); go_simp; try with_reducible rfl
    simp only [Act.put, List.setIfInBounds_toArray, List.set_cons_zero, List.set_cons_succ]
    refine wpAnyH_take (i := 22) (oi := ?ot22) (v := ?vt22) ?hit22 (by kernel_rfl) (by kernel_rfl) (by kernel_rfl) ?hQt22 ?hyt22 hH26 ?_
    case hit22 => simp only [List.getElem?_toArray, List.getElem?_cons_zero, List.getElem?_cons_succ]; rfl
    case hQt22 => exact fun _ _ _ h => h
    case hyt22 => refine Or.inl ⟨by rfl, ?_⟩; intro W hSw; (try dsimp only at hSw); go_simp; try with_reducible rfl
    simp only [Act.put, List.setIfInBounds_toArray, List.set_cons_zero, List.set_cons_succ]
    refine wpAnyH_take (i := 23) (oi := ?ot23) (v := ?vt23) ?hit23 (by kernel_rfl) (by kernel_rfl) (by kernel_rfl) ?hQt23 ?hyt23 hH26 ?_
    case hit23 => simp only [List.getElem?_toArray, List.getElem?_cons_zero, List.getElem?_cons_succ]; rfl
    case hQt23 => exact fun _ _ _ h => h
    case hyt23 => refine Or.inl ⟨by rfl, ?_⟩; intro W hSw; (try dsimp only at hSw); go_simp; try with_reducible rfl
    simp only [Act.put, List.setIfInBounds_toArray, List.set_cons_zero, List.set_cons_succ]
    refine wpAnyH_take (i := 25) (oi := ?ot25) (v := ?vt25) ?hit25 (by kernel_rfl) (by kernel_rfl) (by kernel_rfl) ?hQt25 ?hyt25 hH26 ?_
    case hit25 => simp only [List.getElem?_toArray, List.getElem?_cons_zero, List.getElem?_cons_succ]; rfl
    case hQt25 => exact fun _ _ _ h => h
    case hyt25 => refine Or.inl ⟨by rfl, ?_⟩; intro W hSw; (try dsimp only at hSw); go_simp; try with_reducible rfl
    simp only [Act.put, List.setIfInBounds_toArray, List.set_cons_zero, List.set_cons_succ]
    refine wpAnyH_take (i := 26) (oi := ?ot26) (v := ?vt26) ?hit26 (by kernel_rfl) (by kernel_rfl) (by kernel_rfl) ?hQt26 ?hyt26 hH26 ?_
    case hit26 => simp only [List.getElem?_toArray, List.getElem?_cons_zero, List.getElem?_cons_succ]; rfl
    case hQt26 => exact fun _ _ _ h => h
    case hyt26 => refine Or.inl ⟨by rfl, ?_⟩; intro W hSw; (try dsimp only at hSw); go_simp; try with_reducible rfl
    simp only [Act.put, List.setIfInBounds_toArray, List.set_cons_zero, List.set_cons_succ]
    clear hH26
    refine wpAnyH_ready (rs := [24]) (by kernel_rfl) (by simp) ?_
    refine AllReadyH.cons (o := ?ot24) ?hot24 (fun K' hK => ?_) AllReadyH.nil
    case hot24 => simp only [List.getElem?_toArray, List.getElem?_cons_zero, List.getElem?_cons_succ]; rfl
    go_simp
    refine (HC.out _).mono ?_
    rintro r w27 ⟨rfl, hb27⟩
    have HD27 := Lib.hid (HD26.out.trans (hb27.mono HD26.out.size))
    clear hb27
    refine hK.out _ _ (MKS.out _ HD27.out) (fun hH27 => ?_)
    clear hK K'
    (try simp only [Act.put, List.setIfInBounds_toArray, List.set_cons_zero, List.set_cons_succ])
    refine wpAnyH_take (i := 27) (oi := ?ot27) (v := ?vt27) ?hit27 (by kernel_rfl) (by kernel_rfl) (by kernel_rfl) ?hQt27 ?hyt27 hH27 ?_
    case hit27 => simp only [List.getElem?_toArray, List.getElem?_cons_zero, List.getElem?_cons_succ]; rfl
    case hQt27 => exact fun _ _ _ h => h
    case hyt27 => refine Or.inl ⟨by rfl, ?_⟩; intro W hSw; (try dsimp only at hSw); go_simp; try with_reducible rfl
    simp only [Act.put, List.setIfInBounds_toArray, List.set_cons_zero, List.set_cons_succ]
    refine wpAnyH_take (i := 28) (oi := ?ot28) (v := ?vt28) ?hit28 (by kernel_rfl) (by kernel_rfl) (by kernel_rfl) ?hQt28 ?hyt28 hH27 ?_
    case hit28 => simp only [List.getElem?_toArray, List.getElem?_cons_zero, List.getElem?_cons_succ]; rfl
    case hQt28 => exact fun _ _ _ h => h
    case hyt28 => refine Or.inl ⟨by rfl, ?_⟩; intro W hSw; (try dsimp only at hSw); go_simp; try with_reducible rfl
    simp only [Act.put, List.setIfInBounds_toArray, List.set_cons_zero, List.set_cons_succ]
    refine wpAnyH_take (i := 29) (oi := ?ot29) (v := ?vt29) ?hit29 (by kernel_rfl) (by kernel_rfl) (by kernel_rfl) ?hQt29 ?hyt29 hH27 ?_
    case hit29 => simp only [List.getElem?_toArray, List.getElem?_cons_zero, List.getElem?_cons_succ]; rfl
    case hQt29 => exact fun _ _ _ h => h
    case hyt29 => refine Or.inl ⟨by rfl, ?_⟩; intro W hSw; (try dsimp only at hSw); go_simp; try with_reducible rfl
    simp only [Act.put, List.setIfInBounds_toArray, List.set_cons_zero, List.set_cons_succ]
    clear hH27
    refine wpAnyH_done (by kernel_rfl) ?_ _
    go_wp2_with fail
    go_ret
    exact ⟨rfl, bx_below (HX.out.trans (HD27.out.mono (by have h1 := HX.out.size; simpa using h1)))⟩
  | false =>
    refine region_begin (S := fun X' => X'.heap[g]? = some (.cells #[.int .i64 fl.kind, .slice pa1 fl.nums.length pc1, .slice pa2 fl.chain.length pc2, .slice pa3 fl.since.length pc3, .slice pa4 fl.boot.length pc4, .slice pa5 fl.marks.length pc5, .slice pa6 fl.entries.length pc6, .slice pa7 fl.events.length pc7, .string fl.b.stream, .int .i64 fl.b.expect, .int .i64 fl.b.session, .int .i64 fl.b.seq, .slice pa8 fl.b.events.length pc8, .string fl.stream] 37) ∧ X'.cell? ⟨W.heap.size, 0, none⟩ = some (.int .i64 k) ∧ Below (W.heap.size + 1) (W.alloc (.cells #[.int .i64 k, .int .i64 n0, .int .i64 n1, .int .i64 n2, .int .i64 n3, .int .i64 n4, .int .i64 n5, .slice ca ch.length ck, .slice sa si.length sk, .slice ba bo.length bk, .slice ma mk.length mc, .slice ea en.length ec, .slice va ev.length vk, .string b.stream, .int .i64 b.expect, .int .i64 b.session, .int .i64 b.seq, .slice la b.events.length lk, .string st] 30)) X') 30 rfl (by kernel_rfl) (MKS.out _ (Below.refl wm.heap.size wm).drew) (fun hH0 => ?_)
    refine wpAnyH_take (i := 0) (oi := ?of0) (v := ?vf0) ?hif0 (by kernel_rfl) (by kernel_rfl) (by kernel_rfl) ?hQf0 ?hyf0 hH0 ?_
    case hif0 => simp only [List.getElem?_toArray, List.getElem?_cons_zero]; rfl
    case hQf0 => exact fun _ _ _ h => h
    case hyf0 => refine Or.inl ⟨by rfl, ?_⟩; intro W hSw; (try dsimp only at hSw); go_simp; try with_reducible rfl
    simp only [Act.put, List.setIfInBounds_toArray, List.set_cons_zero, List.set_cons_succ]
    refine wpAnyH_take (i := 1) (oi := ?of1) (v := ?vf1) ?hif1 (by kernel_rfl) (by kernel_rfl) (by kernel_rfl) ?hQf1 ?hyf1 hH0 ?_
    case hif1 => simp only [List.getElem?_toArray, List.getElem?_cons_zero, List.getElem?_cons_succ]; rfl
    case hQf1 => exact fun _ _ _ h => h
    case hyf1 => refine Or.inl ⟨by rfl, ?_⟩; intro W hSw; (try dsimp only at hSw); go_simp; try with_reducible rfl
    simp only [Act.put, List.setIfInBounds_toArray, List.set_cons_zero, List.set_cons_succ]
    refine wpAnyH_take (i := 2) (oi := ?of2) (v := ?vf2) ?hif2 (by kernel_rfl) (by kernel_rfl) (by kernel_rfl) ?hQf2 ?hyf2 hH0 ?_
    case hif2 => simp only [List.getElem?_toArray, List.getElem?_cons_zero, List.getElem?_cons_succ]; rfl
    case hQf2 => exact fun _ _ _ h => h
    case hyf2 => refine Or.inl ⟨by rfl, ?_⟩; intro W hSw; (try dsimp only at hSw); go_simp; try with_reducible rfl
    simp only [Act.put, List.setIfInBounds_toArray, List.set_cons_zero, List.set_cons_succ]
    refine wpAnyH_take (i := 4) (oi := ?of4) (v := ?vf4) ?hif4 (by kernel_rfl) (by kernel_rfl) (by kernel_rfl) ?hQf4 ?hyf4 hH0 ?_
    case hif4 => simp only [List.getElem?_toArray, List.getElem?_cons_zero, List.getElem?_cons_succ]; rfl
    case hQf4 => exact fun _ _ _ h => h
    case hyf4 =>
      refine Or.inl ⟨by rfl, ?_⟩
      intro W' hSw
      have z0 : W'.cell? ⟨g, 0, none⟩ = some (.int .i64 fl.kind) := Lib.cell_of_heap hSw.1 0
      have z1 : W'.cell? ⟨g, 1, none⟩ = some (.slice pa1 fl.nums.length pc1) := Lib.cell_of_heap hSw.1 1
      have z2 : W'.cell? ⟨g, 2, none⟩ = some (.slice pa2 fl.chain.length pc2) := Lib.cell_of_heap hSw.1 2
      have z3 : W'.cell? ⟨g, 3, none⟩ = some (.slice pa3 fl.since.length pc3) := Lib.cell_of_heap hSw.1 3
      have z4 : W'.cell? ⟨g, 4, none⟩ = some (.slice pa4 fl.boot.length pc4) := Lib.cell_of_heap hSw.1 4
      have z5 : W'.cell? ⟨g, 5, none⟩ = some (.slice pa5 fl.marks.length pc5) := Lib.cell_of_heap hSw.1 5
      have z6 : W'.cell? ⟨g, 6, none⟩ = some (.slice pa6 fl.entries.length pc6) := Lib.cell_of_heap hSw.1 6
      have z7 : W'.cell? ⟨g, 7, none⟩ = some (.slice pa7 fl.events.length pc7) := Lib.cell_of_heap hSw.1 7
      have z8 : W'.cell? ⟨g, 8, none⟩ = some (.string fl.b.stream) := Lib.cell_of_heap hSw.1 8
      have z9 : W'.cell? ⟨g, 9, none⟩ = some (.int .i64 fl.b.expect) := Lib.cell_of_heap hSw.1 9
      have z10 : W'.cell? ⟨g, 10, none⟩ = some (.int .i64 fl.b.session) := Lib.cell_of_heap hSw.1 10
      have z11 : W'.cell? ⟨g, 11, none⟩ = some (.int .i64 fl.b.seq) := Lib.cell_of_heap hSw.1 11
      have z12 : W'.cell? ⟨g, 12, none⟩ = some (.slice pa8 fl.b.events.length pc8) := Lib.cell_of_heap hSw.1 12
      have z13 : W'.cell? ⟨g, 13, none⟩ = some (.string fl.stream) := Lib.cell_of_heap hSw.1 13
      clear hSw
      go_simp
      try with_reducible rfl
    simp only [Act.put, List.setIfInBounds_toArray, List.set_cons_zero, List.set_cons_succ]
    clear hH0
    have HD20 := Lib.hid (Below.refl wm.heap.size wm).drew
    generalize wm.drew = w20 at *
    refine wpAnyH_ready (rs := [3]) (by kernel_rfl) (by simp) ?_
    refine AllReadyH.cons (o := ?of3) ?hof3 (fun K' hK => ?_) AllReadyH.nil
    case hof3 => simp only [List.getElem?_toArray, List.getElem?_cons_zero, List.getElem?_cons_succ]; rfl
    go_simp
    refine (C1.out _ HD20.out).mono ?_
    rintro r w21 ⟨rfl, hb21⟩
    have HD21 := Lib.hid (HD20.out.trans (hb21.mono HD20.out.size))
    clear hb21
    refine hK.out _ _ (MKS.out _ HD21.out) (fun hH21 => ?_)
    clear hK K'
    (try simp only [Act.put, List.setIfInBounds_toArray, List.set_cons_zero, List.set_cons_succ])
    clear hH21
    refine wpAnyH_ready (rs := [5]) (by kernel_rfl) (by simp) ?_
    refine AllReadyH.cons (o := ?of5) ?hof5 (fun K' hK => ?_) AllReadyH.nil
    case hof5 => simp only [List.getElem?_toArray, List.getElem?_cons_zero, List.getElem?_cons_succ]; rfl
    go_simp
    refine (C2.out _ HD21.out).mono ?_
    rintro r w22 ⟨rfl, hb22⟩
    have HD22 := Lib.hid (HD21.out.trans (hb22.mono HD21.out.size))
    clear hb22
    refine hK.out _ _ (MKS.out _ HD22.out) (fun hH22 => ?_)
    clear hK K'
    (try simp only [Act.put, List.setIfInBounds_toArray, List.set_cons_zero, List.set_cons_succ])
    refine wpAnyH_take (i := 6) (oi := ?of6) (v := ?vf6) ?hif6 (by kernel_rfl) (by kernel_rfl) (by kernel_rfl) ?hQf6 ?hyf6 hH22 ?_
    case hif6 => simp only [List.getElem?_toArray, List.getElem?_cons_zero, List.getElem?_cons_succ]; rfl
    case hQf6 => exact fun _ _ _ h => h
    case hyf6 => refine Or.inl ⟨by rfl, ?_⟩; intro W hSw; (try dsimp only at hSw); go_simp; try with_reducible rfl
    simp only [Act.put, List.setIfInBounds_toArray, List.set_cons_zero, List.set_cons_succ]
    refine wpAnyH_take (i := 7) (oi := ?of7) (v := ?vf7) ?hif7 (by kernel_rfl) (by kernel_rfl) (by kernel_rfl) ?hQf7 ?hyf7 hH22 ?_
    case hif7 => simp only [List.getElem?_toArray, List.getElem?_cons_zero, List.getElem?_cons_succ]; rfl
    case hQf7 => exact fun _ _ _ h => h
    case hyf7 => refine Or.inl ⟨by rfl, ?_⟩; intro W hSw; (try dsimp only at hSw); go_simp; try with_reducible rfl
    simp only [Act.put, List.setIfInBounds_toArray, List.set_cons_zero, List.set_cons_succ]
    refine wpAnyH_take (i := 8) (oi := ?of8) (v := ?vf8) ?hif8 (by kernel_rfl) (by kernel_rfl) (by kernel_rfl) ?hQf8 ?hyf8 hH22 ?_
    case hif8 => simp only [List.getElem?_toArray, List.getElem?_cons_zero, List.getElem?_cons_succ]; rfl
    case hQf8 => exact fun _ _ _ h => h
    case hyf8 => refine Or.inl ⟨by rfl, ?_⟩; intro W hSw; (try dsimp only at hSw); go_simp; try with_reducible rfl
    simp only [Act.put, List.setIfInBounds_toArray, List.set_cons_zero, List.set_cons_succ]
    refine wpAnyH_take (i := 9) (oi := ?of9) (v := ?vf9) ?hif9 (by kernel_rfl) (by kernel_rfl) (by kernel_rfl) ?hQf9 ?hyf9 hH22 ?_
    case hif9 => simp only [List.getElem?_toArray, List.getElem?_cons_zero, List.getElem?_cons_succ]; rfl
    case hQf9 => exact fun _ _ _ h => h
    case hyf9 => refine Or.inl ⟨by rfl, ?_⟩; intro W hSw; (try dsimp only at hSw); go_simp; try with_reducible rfl
    simp only [Act.put, List.setIfInBounds_toArray, List.set_cons_zero, List.set_cons_succ]
    refine wpAnyH_take (i := 11) (oi := ?of11) (v := ?vf11) ?hif11 (by kernel_rfl) (by kernel_rfl) (by kernel_rfl) ?hQf11 ?hyf11 hH22 ?_
    case hif11 => simp only [List.getElem?_toArray, List.getElem?_cons_zero, List.getElem?_cons_succ]; rfl
    case hQf11 => exact fun _ _ _ h => h
    case hyf11 =>
      refine Or.inl ⟨by rfl, ?_⟩
      intro W' hSw
      have z0 : W'.cell? ⟨g, 0, none⟩ = some (.int .i64 fl.kind) := Lib.cell_of_heap hSw.1 0
      have z1 : W'.cell? ⟨g, 1, none⟩ = some (.slice pa1 fl.nums.length pc1) := Lib.cell_of_heap hSw.1 1
      have z2 : W'.cell? ⟨g, 2, none⟩ = some (.slice pa2 fl.chain.length pc2) := Lib.cell_of_heap hSw.1 2
      have z3 : W'.cell? ⟨g, 3, none⟩ = some (.slice pa3 fl.since.length pc3) := Lib.cell_of_heap hSw.1 3
      have z4 : W'.cell? ⟨g, 4, none⟩ = some (.slice pa4 fl.boot.length pc4) := Lib.cell_of_heap hSw.1 4
      have z5 : W'.cell? ⟨g, 5, none⟩ = some (.slice pa5 fl.marks.length pc5) := Lib.cell_of_heap hSw.1 5
      have z6 : W'.cell? ⟨g, 6, none⟩ = some (.slice pa6 fl.entries.length pc6) := Lib.cell_of_heap hSw.1 6
      have z7 : W'.cell? ⟨g, 7, none⟩ = some (.slice pa7 fl.events.length pc7) := Lib.cell_of_heap hSw.1 7
      have z8 : W'.cell? ⟨g, 8, none⟩ = some (.string fl.b.stream) := Lib.cell_of_heap hSw.1 8
      have z9 : W'.cell? ⟨g, 9, none⟩ = some (.int .i64 fl.b.expect) := Lib.cell_of_heap hSw.1 9
      have z10 : W'.cell? ⟨g, 10, none⟩ = some (.int .i64 fl.b.session) := Lib.cell_of_heap hSw.1 10
      have z11 : W'.cell? ⟨g, 11, none⟩ = some (.int .i64 fl.b.seq) := Lib.cell_of_heap hSw.1 11
      have z12 : W'.cell? ⟨g, 12, none⟩ = some (.slice pa8 fl.b.events.length pc8) := Lib.cell_of_heap hSw.1 12
      have z13 : W'.cell? ⟨g, 13, none⟩ = some (.string fl.stream) := Lib.cell_of_heap hSw.1 13
      clear hSw
      go_simp
      try with_reducible rfl
    simp only [Act.put, List.setIfInBounds_toArray, List.set_cons_zero, List.set_cons_succ]
    clear hH22
    refine wpAnyH_ready (rs := [10]) (by kernel_rfl) (by simp) ?_
    refine AllReadyH.cons (o := ?of10) ?hof10 (fun K' hK => ?_) AllReadyH.nil
    case hof10 => simp only [List.getElem?_toArray, List.getElem?_cons_zero, List.getElem?_cons_succ]; rfl
    go_simp
    refine (C3.out _ HD22.out).mono ?_
    rintro r w23 ⟨rfl, hb23⟩
    have HD23 := Lib.hid (HD22.out.trans (hb23.mono HD22.out.size))
    clear hb23
    refine hK.out _ _ (MKS.out _ HD23.out) (fun hH23 => ?_)
    clear hK K'
    (try simp only [Act.put, List.setIfInBounds_toArray, List.set_cons_zero, List.set_cons_succ])
    clear hH23
    refine wpAnyH_ready (rs := [12]) (by kernel_rfl) (by simp) ?_
    refine AllReadyH.cons (o := ?of12) ?hof12 (fun K' hK => ?_) AllReadyH.nil
    case hof12 => simp only [List.getElem?_toArray, List.getElem?_cons_zero, List.getElem?_cons_succ]; rfl
    go_simp
    refine (C4.out _ HD23.out).mono ?_
    rintro r w24 ⟨rfl, hb24⟩
    have HD24 := Lib.hid (HD23.out.trans (hb24.mono HD23.out.size))
    clear hb24
    refine hK.out _ _ (MKS.out _ HD24.out) (fun hH24 => ?_)
    clear hK K'
    (try simp only [Act.put, List.setIfInBounds_toArray, List.set_cons_zero, List.set_cons_succ])
    refine wpAnyH_take (i := 13) (oi := ?of13) (v := ?vf13) ?hif13 (by kernel_rfl) (by kernel_rfl) (by kernel_rfl) ?hQf13 ?hyf13 hH24 ?_
    case hif13 => simp only [List.getElem?_toArray, List.getElem?_cons_zero, List.getElem?_cons_succ]; rfl
    case hQf13 => exact fun _ _ _ h => h
    case hyf13 => refine Or.inl ⟨by rfl, ?_⟩; intro W hSw; (try dsimp only at hSw); go_simp; try with_reducible rfl
    simp only [Act.put, List.setIfInBounds_toArray, List.set_cons_zero, List.set_cons_succ]
    refine wpAnyH_take (i := 14) (oi := ?of14) (v := ?vf14) ?hif14 (by kernel_rfl) (by kernel_rfl) (by kernel_rfl) ?hQf14 ?hyf14 hH24 ?_
    case hif14 => simp only [List.getElem?_toArray, List.getElem?_cons_zero, List.getElem?_cons_succ]; rfl
    case hQf14 => exact fun _ _ _ h => h
    case hyf14 => refine Or.inl ⟨by rfl, ?_⟩; intro W hSw; (try dsimp only at hSw); go_simp; try with_reducible rfl
    simp only [Act.put, List.setIfInBounds_toArray, List.set_cons_zero, List.set_cons_succ]
    refine wpAnyH_take (i := 15) (oi := ?of15) (v := ?vf15) ?hif15 (by kernel_rfl) (by kernel_rfl) (by kernel_rfl) ?hQf15 ?hyf15 hH24 ?_
    case hif15 => simp only [List.getElem?_toArray, List.getElem?_cons_zero, List.getElem?_cons_succ]; rfl
    case hQf15 => exact fun _ _ _ h => h
    case hyf15 => refine Or.inl ⟨by rfl, ?_⟩; intro W hSw; (try dsimp only at hSw); go_simp; try with_reducible rfl
    simp only [Act.put, List.setIfInBounds_toArray, List.set_cons_zero, List.set_cons_succ]
    refine wpAnyH_take (i := 16) (oi := ?of16) (v := ?vf16) ?hif16 (by kernel_rfl) (by kernel_rfl) (by kernel_rfl) ?hQf16 ?hyf16 hH24 ?_
    case hif16 => simp only [List.getElem?_toArray, List.getElem?_cons_zero, List.getElem?_cons_succ]; rfl
    case hQf16 => exact fun _ _ _ h => h
    case hyf16 => refine Or.inl ⟨by rfl, ?_⟩; intro W hSw; (try dsimp only at hSw); go_simp; try with_reducible rfl
    simp only [Act.put, List.setIfInBounds_toArray, List.set_cons_zero, List.set_cons_succ]
    refine wpAnyH_take (i := 18) (oi := ?of18) (v := ?vf18) ?hif18 (by kernel_rfl) (by kernel_rfl) (by kernel_rfl) ?hQf18 ?hyf18 hH24 ?_
    case hif18 => simp only [List.getElem?_toArray, List.getElem?_cons_zero, List.getElem?_cons_succ]; rfl
    case hQf18 => exact fun _ _ _ h => h
    case hyf18 =>
      refine Or.inl ⟨by rfl, ?_⟩
      intro W' hSw
      have z0 : W'.cell? ⟨g, 0, none⟩ = some (.int .i64 fl.kind) := Lib.cell_of_heap hSw.1 0
      have z1 : W'.cell? ⟨g, 1, none⟩ = some (.slice pa1 fl.nums.length pc1) := Lib.cell_of_heap hSw.1 1
      have z2 : W'.cell? ⟨g, 2, none⟩ = some (.slice pa2 fl.chain.length pc2) := Lib.cell_of_heap hSw.1 2
      have z3 : W'.cell? ⟨g, 3, none⟩ = some (.slice pa3 fl.since.length pc3) := Lib.cell_of_heap hSw.1 3
      have z4 : W'.cell? ⟨g, 4, none⟩ = some (.slice pa4 fl.boot.length pc4) := Lib.cell_of_heap hSw.1 4
      have z5 : W'.cell? ⟨g, 5, none⟩ = some (.slice pa5 fl.marks.length pc5) := Lib.cell_of_heap hSw.1 5
      have z6 : W'.cell? ⟨g, 6, none⟩ = some (.slice pa6 fl.entries.length pc6) := Lib.cell_of_heap hSw.1 6
      have z7 : W'.cell? ⟨g, 7, none⟩ = some (.slice pa7 fl.events.length pc7) := Lib.cell_of_heap hSw.1 7
      have z8 : W'.cell? ⟨g, 8, none⟩ = some (.string fl.b.stream) := Lib.cell_of_heap hSw.1 8
      have z9 : W'.cell? ⟨g, 9, none⟩ = some (.int .i64 fl.b.expect) := Lib.cell_of_heap hSw.1 9
      have z10 : W'.cell? ⟨g, 10, none⟩ = some (.int .i64 fl.b.session) := Lib.cell_of_heap hSw.1 10
      have z11 : W'.cell? ⟨g, 11, none⟩ = some (.int .i64 fl.b.seq) := Lib.cell_of_heap hSw.1 11
      have z12 : W'.cell? ⟨g, 12, none⟩ = some (.slice pa8 fl.b.events.length pc8) := Lib.cell_of_heap hSw.1 12
      have z13 : W'.cell? ⟨g, 13, none⟩ = some (.string fl.stream) := Lib.cell_of_heap hSw.1 13
      clear hSw
      go_simp
      try with_reducible rfl
    simp only [Act.put, List.setIfInBounds_toArray, List.set_cons_zero, List.set_cons_succ]
    clear hH24
    refine wpAnyH_ready (rs := [17]) (by kernel_rfl) (by simp) ?_
    refine AllReadyH.cons (o := ?of17) ?hof17 (fun K' hK => ?_) AllReadyH.nil
    case hof17 => simp only [List.getElem?_toArray, List.getElem?_cons_zero, List.getElem?_cons_succ]; rfl
    go_simp
    refine (C5.out _ HD24.out).mono ?_
    rintro r w25 ⟨rfl, hb25⟩
    have HD25 := Lib.hid (HD24.out.trans (hb25.mono HD24.out.size))
    clear hb25
    refine hK.out _ _ (MKS.out _ HD25.out) (fun hH25 => ?_)
    clear hK K'
    (try simp only [Act.put, List.setIfInBounds_toArray, List.set_cons_zero, List.set_cons_succ])
    clear hH25
    refine wpAnyH_ready (rs := [19]) (by kernel_rfl) (by simp) ?_
    refine AllReadyH.cons (o := ?of19) ?hof19 (fun K' hK => ?_) AllReadyH.nil
    case hof19 => simp only [List.getElem?_toArray, List.getElem?_cons_zero, List.getElem?_cons_succ]; rfl
    go_simp
    refine (C6.out _ HD25.out).mono ?_
    rintro r w26 ⟨rfl, hb26⟩
    have HD26 := Lib.hid (HD25.out.trans (hb26.mono HD25.out.size))
    clear hb26
    refine hK.out _ _ (MKS.out _ HD26.out) (fun hH26 => ?_)
    clear hK K'
    (try simp only [Act.put, List.setIfInBounds_toArray, List.set_cons_zero, List.set_cons_succ])
    refine wpAnyH_take (i := 20) (oi := ?of20) (v := ?vf20) ?hif20 (by kernel_rfl) (by kernel_rfl) (by kernel_rfl) ?hQf20 ?hyf20 hH26 ?_
    case hif20 => simp only [List.getElem?_toArray, List.getElem?_cons_zero, List.getElem?_cons_succ]; rfl
    case hQf20 => exact fun _ _ _ h => h
    case hyf20 => refine Or.inl ⟨by rfl, ?_⟩; intro W hSw; (try dsimp only at hSw); go_simp; try with_reducible rfl
    simp only [Act.put, List.setIfInBounds_toArray, List.set_cons_zero, List.set_cons_succ]
    refine wpAnyH_take (i := 21) (oi := ?of21) (v := ?vf21) ?hif21 (by kernel_rfl) (by kernel_rfl) (by kernel_rfl) ?hQf21 ?hyf21 hH26 ?_
    case hif21 => simp only [List.getElem?_toArray, List.getElem?_cons_zero, List.getElem?_cons_succ]; rfl
    case hQf21 => exact fun _ _ _ h => h
    case hyf21 => refine Or.inl ⟨by rfl, ?_⟩; intro W hSw; (try dsimp only at hSw); go_simp; try with_reducible rfl
    simp only [Act.put, List.setIfInBounds_toArray, List.set_cons_zero, List.set_cons_succ]
    refine wpAnyH_take (i := 22) (oi := ?of22) (v := ?vf22) ?hif22 (by kernel_rfl) (by kernel_rfl) (by kernel_rfl) ?hQf22 ?hyf22 hH26 ?_
    case hif22 => simp only [List.getElem?_toArray, List.getElem?_cons_zero, List.getElem?_cons_succ]; rfl
    case hQf22 => exact fun _ _ _ h => h
    case hyf22 => refine Or.inl ⟨by rfl, ?_⟩; intro W hSw; (try dsimp only at hSw); go_simp; try with_reducible rfl
    simp only [Act.put, List.setIfInBounds_toArray, List.set_cons_zero, List.set_cons_succ]
    refine wpAnyH_take (i := 23) (oi := ?of23) (v := ?vf23) ?hif23 (by kernel_rfl) (by kernel_rfl) (by kernel_rfl) ?hQf23 ?hyf23 hH26 ?_
    case hif23 => simp only [List.getElem?_toArray, List.getElem?_cons_zero, List.getElem?_cons_succ]; rfl
    case hQf23 => exact fun _ _ _ h => h
    case hyf23 => refine Or.inl ⟨by rfl, ?_⟩; intro W hSw; (try dsimp only at hSw); go_simp; try with_reducible rfl
    simp only [Act.put, List.setIfInBounds_toArray, List.set_cons_zero, List.set_cons_succ]
    refine wpAnyH_take (i := 25) (oi := ?of25) (v := ?vf25) ?hif25 (by kernel_rfl) (by kernel_rfl) (by kernel_rfl) ?hQf25 ?hyf25 hH26 ?_
    case hif25 => simp only [List.getElem?_toArray, List.getElem?_cons_zero, List.getElem?_cons_succ]; rfl
    case hQf25 => exact fun _ _ _ h => h
    case hyf25 => refine Or.inl ⟨by rfl, ?_⟩; intro W hSw; (try dsimp only at hSw); go_simp; try with_reducible rfl
    simp only [Act.put, List.setIfInBounds_toArray, List.set_cons_zero, List.set_cons_succ]
    refine wpAnyH_take (i := 26) (oi := ?of26) (v := ?vf26) ?hif26 (by kernel_rfl) (by kernel_rfl) (by kernel_rfl) ?hQf26 ?hyf26 hH26 ?_
    case hif26 => simp only [List.getElem?_toArray, List.getElem?_cons_zero, List.getElem?_cons_succ]; rfl
    case hQf26 => exact fun _ _ _ h => h
    case hyf26 => refine Or.inl ⟨by rfl, ?_⟩; intro W hSw; (try dsimp only at hSw); go_simp; try with_reducible rfl
    simp only [Act.put, List.setIfInBounds_toArray, List.set_cons_zero, List.set_cons_succ]
    clear hH26
    refine wpAnyH_ready (rs := [24]) (by kernel_rfl) (by simp) ?_
    refine AllReadyH.cons (o := ?of24) ?hof24 (fun K' hK => ?_) AllReadyH.nil
    case hof24 => simp only [List.getElem?_toArray, List.getElem?_cons_zero, List.getElem?_cons_succ]; rfl
    go_simp
    refine (HC.out _).mono ?_
    rintro r w27 ⟨rfl, hb27⟩
    have HD27 := Lib.hid (HD26.out.trans (hb27.mono HD26.out.size))
    clear hb27
    refine hK.out _ _ (MKS.out _ HD27.out) (fun hH27 => ?_)
    clear hK K'
    (try simp only [Act.put, List.setIfInBounds_toArray, List.set_cons_zero, List.set_cons_succ])
    refine wpAnyH_take (i := 27) (oi := ?of27) (v := ?vf27) ?hif27 (by kernel_rfl) (by kernel_rfl) (by kernel_rfl) ?hQf27 ?hyf27 hH27 ?_
    case hif27 => simp only [List.getElem?_toArray, List.getElem?_cons_zero, List.getElem?_cons_succ]; rfl
    case hQf27 => exact fun _ _ _ h => h
    case hyf27 => refine Or.inl ⟨by rfl, ?_⟩; intro W hSw; (try dsimp only at hSw); go_simp; try with_reducible rfl
    simp only [Act.put, List.setIfInBounds_toArray, List.set_cons_zero, List.set_cons_succ]
    refine wpAnyH_take (i := 28) (oi := ?of28) (v := ?vf28) ?hif28 (by kernel_rfl) (by kernel_rfl) (by kernel_rfl) ?hQf28 ?hyf28 hH27 ?_
    case hif28 => simp only [List.getElem?_toArray, List.getElem?_cons_zero, List.getElem?_cons_succ]; rfl
    case hQf28 => exact fun _ _ _ h => h
    case hyf28 => refine Or.inl ⟨by rfl, ?_⟩; intro W hSw; (try dsimp only at hSw); go_simp; try with_reducible rfl
    simp only [Act.put, List.setIfInBounds_toArray, List.set_cons_zero, List.set_cons_succ]
    refine wpAnyH_take (i := 29) (oi := ?of29) (v := ?vf29) ?hif29 (by kernel_rfl) (by kernel_rfl) (by kernel_rfl) ?hQf29 ?hyf29 hH27 ?_
    case hif29 => simp only [List.getElem?_toArray, List.getElem?_cons_zero, List.getElem?_cons_succ]; rfl
    case hQf29 => exact fun _ _ _ h => h
    case hyf29 => refine Or.inl ⟨by rfl, ?_⟩; intro W hSw; (try dsimp only at hSw); go_simp; try with_reducible rfl
    simp only [Act.put, List.setIfInBounds_toArray, List.set_cons_zero, List.set_cons_succ]
    clear hH27
    refine wpAnyH_done (by kernel_rfl) ?_ _
    go_wp2_with fail
    go_ret
    exact ⟨rfl, bx_below (HX.out.trans (HD27.out.mono (by have h1 := HX.out.size; simpa using h1)))⟩

theorem walkMessagePuts (v : Value) (d : DW) (s : DS) (W : World) (hv : v = .agg (d.cells s).toArray) (h : DOk W.heap.size W d s) (hsz : SizeD d) (hT : Tabs W) :
    Calls Tryz.prog 3 #[v] W fun r w' => r = .returned (.bool true) ∧ Below W.heap.size W w' := by
  obtain ⟨ca, ck, sa, sk, ba, bk, ma, mc, ea, ec, va, vk, la, lk, rfl⟩ := h.forms
  obtain ⟨k, n0, n1, n2, n3, n4, n5, ch, si, bo, mk, en, ev, b, st⟩ := d
  subst hv
  exact puts_lit k n0 n1 n2 n3 n4 n5 ch si bo mk en ev b st ca sa ba ma ea va la ck sk bk mc ec vk lk W h hsz hT _ rfl
end Go.Proofs.YtflojipkgaocnaaGreatDoor
namespace Go.Proofs.YtflojipkgaocnaaGreatDoor.messagePuts
open Go.ChangeShapes Go.WideShapes Go.ChangeAt Go.RowKit
open Go.ChangeMaps (open_string shut_string)
set_option linter.unusedVariables false

theorem own : ownKnob Tryz.prog.godebug = none := by kernel_rfl
theorem laidOut : laidOutB Tryz.prog = true := by kernel_rfl
theorem tabs_of {W : World} (h : laidMetH Tryz.prog Rows.messagePutsRow.laid W) : Tabs W := by
  rw [MakeChecks.laidMetH_plain _ _ _ (by kernel_rfl)] at h
  exact utf8Tabs_of_readsT (ρ := Tryz.lays260_ren) (U8Types.of260 Tryz.lays260) ⟨by kernel_rfl, by kernel_rfl, by kernel_rfl, by kernel_rfl, by kernel_rfl, by kernel_rfl, by kernel_rfl⟩
    (Pinned.utf8First_eq ▸ Lib.laidMet.reads h (.tail _ (.head _))) ((show Rows.laid_unicode_utf8_acceptRanges = Lib.acceptData by kernel_rfl) ▸ Lib.laidMet.reads h (.head _))
set_option maxRecDepth 100000 in
theorem lifted (os : Os) (started : os.Started) (H : Type) (enc : TypeId × Value → H) :
    ReturnsInHanded {} Tryz.checked os 3 .any (fun w args => (Rows.messagePutsSpec.pre enc Tryz.prog Tryz.f3 [] false w args ∧ laidMetH Tryz.prog Rows.messagePutsRow.laid w) ∧ sizedMet enc Tryz.prog Tryz.f3 (OpenSpec.ofChange Rows.messagePutsSpec) false w args)
      (Rows.messagePutsSpec.post enc Tryz.prog Tryz.f3 false true false false) := by
  refine returnsInHanded_of_change_and (C := Tryz.checked) (X := fun w _ => laidMetH Tryz.prog Rows.messagePutsRow.laid w) (fun _ _ _ hh h => h.of_heap hh) own started (by kernel_rfl) Tryz.func3
    (ChangeSpec.witness_shaped (enc := enc) (C := Tryz.checked) (os := os) (X := fun w _ => laidMetH Tryz.prog Rows.messagePutsRow.laid w) false (World.laidAll Tryz.prog os Rows.messagePutsRow.laid) #[.agg #[.int .i64 0, .int .i64 0, .int .i64 0, .int .i64 0, .int .i64 0, .int .i64 0, .int .i64 0, .slice none 0 0, .slice none 0 0, .slice none 0 0, .slice none 0 0, .slice none 0 0, .slice none 0 0, .string ByteArray.empty, .int .i64 0, .int .i64 0, .int .i64 0, .slice none 0 0, .string ByteArray.empty]] 8 (World.laidAll_os _ _ _)
      (World.shaped_of_ZipB (by kernel_rfl) (by kernel_rfl)) (by kernel_rfl) (by kernel_rfl) (by kernel_rfl)
      (by rw [MakeChecks.laidMetH_plain _ _ _ (by kernel_rfl)]; exact laidMet_laidAll _ (by kernel_rfl) (by kernel_rfl))) ?_
  intro W base args ds gs before hval0 hW _ hsz0 hL _
  have hval : ∀ (j : Nat) t v, Tryz.f3.params[j]? = some t → args[j]? = some v → Value.okWide Tryz.prog W .any base t v := hval0
  have hW' := hW
  obtain ⟨p, q, hA0, hV, rfl, hfz, hnd⟩ := hW
  have hA : DataW.TrodAll enc Tryz.prog W 0 (fun _ => true) true Tryz.f3.params.toList args.toList ds p := hA0
  rw [Tryz.params3] at hA hval
  obtain ⟨v0, vs0, d0, ds0, p0, q0, hargs, rfl, rfl, h0, r0⟩ := trodAll_cons hA
  obtain ⟨rfl, rfl, rfl⟩ := trodAll_nil r0
  obtain rfl : args = #[v0] := by cases args; simp_all
  obtain ⟨rfl, rfl⟩ := trodVars_none hV
  have k0 := h0
  have lt0 : ∀ x ∈ p0, x.block < W.heap.size := by obtain ⟨m, hm⟩ := k0; exact DataW.trod_lt m _ _ _ hm
  have l0 : Light 30 d0 := fun u hu => Nat.le_trans (of_decide_eq_true (List.all_eq_true.1 hsz0 u (DataW.weights_mem_each (j := 0) (t := 30) rfl rfl u hu))) (by decide)
  obtain ⟨b0, s0, rfl, w0, z0⟩ := open_draw (hval 0 _ v0 rfl rfl) h0 l0
  have hT := tabs_of hL
  clear hA0 hval0
  refine (walkMessagePuts _ b0 s0 W rfl w0 z0 hT).mono fun e W' ⟨he, bel⟩ => ?_
  subst he
  exact ⟨_, rfl, _, _, _, [], _, [], hW', trodAll_mk1 (shut_bool Tryz.underlying4 _), (trodAll_cons_mk (Below.trod laidOut (by kernel_rfl) (of_decide_eq_true (by kernel_rfl)) k0 bel lt0) trodAll_mk0), rfl, bel.frame _, fun h => by cases h⟩

theorem over : Rows.messagePutsRow.holds Tryz.pinned (OpenSpec.ofChange Rows.messagePutsSpec) :=
  OpenClaim.holds_of_wide 3 Tryz.f3 rfl rfl rfl rfl rfl rfl rfl ⟨rfl, rfl, rfl, rfl, rfl⟩ rfl rfl rfl rfl rfl (by kernel_rfl) Tryz.func3 (by kernel_rfl)
    (of_decide_eq_true (by kernel_rfl)) (by unfold Func.isWrapper; first | (rw [if_pos (by decide +kernel)]; kernel_rfl) | (rw [if_neg (by decide +kernel)]; exact ⟨rfl, rfl⟩))
    (fun os started H enc _ => lifted os started H enc)

theorem proved : Rows.MessagePutsCardSaid :=
  Claim7.holds_tied_plain_at .later [] [.data, .pinned] true Rows.messagePutsCard.stood.harness true
    over (fun _ h => by cases h) (by kernel_rfl) (fun _ h => by cases h) messagePuts_row_tie rfl ⟨rfl, rfl⟩ (by kernel_rfl) rfl
    (fun f fn hf hfn => by
      obtain rfl : f = 3 := Option.some.inj ((show Tryz.prog.funcNamed "bucketline/bucketlinelaw7.MessagePuts" = some 3 by kernel_rfl).symm.trans hf) |>.symm
      obtain rfl : fn = Tryz.f3 := (Option.some.inj (Tryz.func3.symm.trans hfn)).symm
      exact ⟨by kernel_rfl, fun j t ht => by
        have hall : (Tryz.f3.params.toList.all fun u => !Tryz.prog.wantsStandIn u) = true := by kernel_rfl
        exact (show Tryz.prog.wantsStandIn t = false by simpa using List.all_eq_true.1 hall t (Array.mem_toList_iff.2 (Array.mem_of_getElem? ht)))⟩)
    (by kernel_rfl)
#print axioms proved
end Go.Proofs.YtflojipkgaocnaaGreatDoor.messagePuts
