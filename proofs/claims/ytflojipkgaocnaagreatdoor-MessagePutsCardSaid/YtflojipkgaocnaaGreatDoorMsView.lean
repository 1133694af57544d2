/-
  The walk of message.parts at View. Printed by gen_mshav.py of this claim's writer.
-/
import Derived.Test.YtflojipkgaocnaaGreatDoorMsHav
namespace Go.Proofs.YtflojipkgaocnaaGreatDoor
open Go.RowKit
set_option linter.unusedSimpArgs false
set_option linter.unusedVariables false

def okL (l : List Int) : Bool := decide (l.length ≤ 6) && l.all numM
theorem all_take {α : Type} {p : α → Bool} {l : List α} {k : Nat} (h : k < l.length) : (l.take (k + 1)).all p = ((l.take k).all p && p l[k]) := by
  rw [List.take_succ_eq_append_getElem h, List.all_append]
  simp
theorem putL_le (l : List Int) (h : l.length ≤ 1000) : (putL putI l).length ≤ 6006 := by
  have h1 := catI_le l
  have h2 := putN_len6 (clampN_le (l.length : Int))
  unfold putL
  rw [List.length_append]
  omega
theorem catV_le : ∀ L : List (List Int), (∀ x ∈ L, x.length ≤ 1000) → (catL (putL putI) L).length ≤ 6006 * L.length
  | [], _ => by simp [catL]
  | x :: L, h => by
    have h1 := catV_le L (fun y hy => h y (List.mem_cons_of_mem _ hy))
    have h2 := putL_le x (h x (List.mem_cons_self ..))
    rw [catL_cons, List.length_append, List.length_cons]
    omega
theorem builder_ne {B b g : Nat} {p v : Value} {bs : List Value} {w : World} {C : Array Value} {T : TypeId} {fr : Nat × Nat} (h : Lib.BuilderAt 100 5 B b p bs w) (hbk : w.heap[b]? = some (.cells #[p, v] 100 (0, 0))) (hg : w.heap[g]? = some (.cells C T fr)) (hT : T ≠ 5) : v.ownBlock ≠ some g := by
  obtain ⟨hB, v', hbk', hown, hne⟩ := h
  obtain rfl : v = v' := by
    have e := hbk.symm.trans hbk'
    injection e with e
    injection e with e
    have := congrArg (fun x : Array Value => x.toList) e
    simpa using this
  intro e
  rcases hown.2 with ⟨rfl, _⟩ | ⟨g', cap, cur, rfl, _, hh, _⟩
  · simp [Value.ownBlock] at e
  · simp only [Value.ownBlock, Option.some.injEq] at e
    subst e
    rw [hg] at hh
    injection hh with hh
    injection hh with _ h2 _
    exact hT h2
/-- WriteString, and that a block of another type stays. -/
theorem writeString_keep (B b g : Nat) (l : List UInt8) (s : ByteArray) (w : World) (C : Array Value) (T : TypeId) (fr : Nat × Nat) (h : Lib.IsBuilder 100 5 B b (bcells l) w) (hg : w.heap[g]? = some (.cells C T fr)) (hT : T ≠ 5) (hgb : g ≠ b) (hlen : l.length + s.size ≤ 140737488355328) (hBw : B ≤ w.heap.size) :
    Calls Tryz.prog 27 #[.pointer (some ⟨b, 0, none⟩), .string s] w fun e w' => e = .returned (.tuple #[.int .i64 s.size, .nilIface]) ∧ Lib.IsBuilder 100 5 B b (bcells (l ++ s.data.toList)) w' ∧ Below B w w' ∧ w'.heap[g]? = some (.cells C T fr) := by
  obtain ⟨p, v, hp, hba, hbk, _⟩ := builder_parts h
  refine (writeString_far B b l s w p v hp hba hbk hlen hBw).mono ?_
  rintro e w' ⟨h1, h2, h3, h4⟩
  exact ⟨h1, h2, h3, (h4 g (Array.getElem?_eq_some_iff.1 hg).1 hgb (builder_ne hba hbk hg hT)).trans hg⟩
theorem three_at {B : Nat} {w : World} {c s b : List Int} {p1 p2 p3 : Option Addr} {q1 q2 q3 : Nat} (h1 : IsNums B w (.slice p1 c.length q1) c) (h2 : IsNums B w (.slice p2 s.length q2) s) (h3 : IsNums B w (.slice p3 b.length q3) b)
    {g : Nat} {W : World} {t : TypeId} (hg : W.heap[g]? = some (.cells #[.slice p1 c.length q1, .slice p2 s.length q2, .slice p3 b.length q3] t)) (k : Nat) (hk : k < [c, s, b].length) :
    ∃ (x : List Int) (ea : Option Addr) (ec : Nat), [c, s, b][k] = x ∧ W.cell? ⟨g, k, none⟩ = some (.slice ea x.length ec) ∧ IsNums B w (.slice ea x.length ec) x := by
  have hk3 : k = 0 ∨ k = 1 ∨ k = 2 := by simp only [List.length_cons, List.length_nil] at hk; omega
  rcases hk3 with rfl | rfl | rfl
  · exact ⟨c, p1, q1, rfl, by rw [Lib.cell_of_heap hg]; rfl, h1⟩
  · exact ⟨s, p2, q2, rfl, by rw [Lib.cell_of_heap hg]; rfl, h2⟩
  · exact ⟨b, p3, q3, rfl, by rw [Lib.cell_of_heap hg]; rfl, h3⟩

set_option maxRecDepth 100000 in
set_option maxHeartbeats 12800000 in
theorem parts_view (B : Nat) (v : Value) (a : Int) (c s b : List Int) (w : World) (h : IsMsg B w v (.view a c s b)) (hB : B ≤ w.heap.size) (hl1 : c.length ≤ 1000) (hl2 : s.length ≤ 1000) (hl3 : b.length ≤ 1000) :
    Calls Tryz.prog 25 #[v] w fun en w' => GotRest (.view a c s b) w en w' := by
  have HK : HasKind v 4 := hasKind h
  obtain ⟨cv, sv, bv, rfl, i1, i2, i3⟩ := h
  have I1 := Lib.hid i1
  have I2 := Lib.hid i2
  have I3 := Lib.hid i3
  obtain ⟨p1, q1, rfl⟩ := i1.form
  obtain ⟨p2, q2, rfl⟩ := i2.form
  obtain ⟨p3, q3, rfl⟩ := i3.form
  obtain ⟨T, p, F, hv, hm, hcf, hc⟩ := HK
  injection hv with hv1 hv2
  subst hv1 hv2
  have HC := Lib.hid hc
  have ta : ∀ (W : World) (v : Value), (Instr.typeAssert (.iface 63 v) 34 63 false).run Tryz.prog W = .ok v W := fun W v => by kernel_rfl
  have hrest : (Msg.view a c s b).rest = catL (putL putI) [c, s, b] := by simp [Msg.rest, catL]
  have hok : (Msg.view a c s b).restOk = [c, s, b].all okL := by simp [Msg.restOk, okL]
  have hlen : ∀ x ∈ [c, s, b], x.length ≤ 1000 := by
    intro x hx
    simp only [List.mem_cons, List.mem_nil_iff, or_false] at hx
    rcases hx with rfl | rfl | rfl <;> assumption
  have HREST := Lib.hid hrest
  have HOK := Lib.hid hok
  have HLEN := Lib.hid hlen
  have HB0 := Lib.hid ((Below.refl w.heap.size w).alloc (Nat.le_refl _) (.cells #[.pointer none, .slice none 0 0] 100))
  have BN := Lib.hid (builder_new w)
  have THR := Lib.hid (fun (g : Nat) (W : World) (t : TypeId) (hg : W.heap[g]? = some (.cells #[.slice p1 c.length q1, .slice p2 s.length q2, .slice p3 b.length q3] t)) => three_at i1 i2 i3 hg)
  clear i1 i2 i3 hc hrest hok hlen I1 I2 I3 hl1 hl2 hl3
  go_enter Tryz.func25, Tryz.ntmps25
  go_wp2_with fail
  refine (HC.out _).mono ?_
  rintro en w1 ⟨rfl, hb1⟩
  have HA1 := Lib.hid (bstep HB0.out hb1)
  have BN1 := Lib.hid (builder_below hb1 BN.out)
  clear hb1
  have HX1 := Lib.hid ((Below.refl w1.heap.size w1).alloc (Nat.le_refl _) (.cells #[.int .i64 a, .slice p1 c.length q1, .slice p2 s.length q2, .slice p3 b.length q3] 63))
  have HX2 := Lib.hid (HX1.out.alloc (by simp only [World.size_alloc]; omega) (.cells #[.slice p1 c.length q1, .slice p2 s.length q2, .slice p3 b.length q3] 23))
  have GQ := Lib.hid (heap_alloc_new (w1.alloc (.cells #[.int .i64 a, .slice p1 c.length q1, .slice p2 s.length q2, .slice p3 b.length q3] 63)) (.cells #[.slice p1 c.length q1, .slice p2 s.length q2, .slice p3 b.length q3] 23))
  rw [World.size_alloc] at GQ
  go_wp2_with fail
  obtain ⟨w2, hw2⟩ : ∃ x, (w1.alloc (.cells #[.int .i64 a, .slice p1 c.length q1, .slice p2 s.length q2, .slice p3 b.length q3] 63)).alloc (.cells #[.slice p1 c.length q1, .slice p2 s.length q2, .slice p3 b.length q3] 23) = x := ⟨_, rfl⟩
  rw [hw2] at HX2 GQ
  simp only [hw2]
  have BN2 := Lib.hid (builder_below HX2.out BN1.out)
  have HA2 := Lib.hid (bstep HA1.out HX2.out)
  have hgw : w1.heap.size + 1 < w2.heap.size := (Array.getElem?_eq_some_iff.1 GQ.out).1
  clear hw2
  go_loopw [6, 8, 10, 34] (fun t6 _ _ t34 wr => ∃ k : Nat, k ≤ 3 ∧ t34 = .int .i64 k ∧ t6 = .bool (([c, s, b].take k).all okL) ∧ Lib.IsBuilder 100 5 w.heap.size w.heap.size (bcells (catL (putL putI) ([c, s, b].take k))) wr ∧ (Below w.heap.size w wr ∧ wr.heap[w1.heap.size + 1]? = some (.cells #[.slice p1 c.length q1, .slice p2 s.length q2, .slice p3 b.length q3] 23))) (fun _ _ _ t34 _ => 3 - (intOf t34).toNat)
  case atStart => exact ⟨0, by omega, rfl, rfl, BN2.out, HA2.out, GQ.out⟩
  case round =>
    obtain ⟨k, hk, rfl, rfl, hbk, hbl, hgq⟩ := hrel
    have HBK := Lib.hid hbk
    have HBL := Lib.hid hbl
    have HGQ := Lib.hid hgq
    clear hbk hbl hgq
    by_cases hlt : k < 3
    · have hlt' : k < [c, s, b].length := hlt
      obtain ⟨x, ea, ec, hx, hcell, hnums⟩ := THR.out _ _ _ HGQ.out k hlt'
      have hxl : x.length ≤ 1000 := HLEN.out x (by rw [← hx]; exact List.getElem_mem hlt')
      have HTK := Lib.hid (catL_take (put := putL putI) hlt')
      have HTA := Lib.hid (all_take (p := okL) hlt')
      rw [hx] at HTK HTA
      have zk := catV_le ([c, s, b].take k) (fun y hy => HLEN.out y (List.mem_of_mem_take hy))
      rw [List.length_take, show [c, s, b].length = 3 from rfl] at zk
      have HN := Lib.hid hnums
      obtain ⟨ok0, hok0⟩ : ∃ q, ([c, s, b].take k).all okL = q := ⟨_, rfl⟩
      rw [hok0] at HTA
      simp only [hok0]
      obtain ⟨pre, hpre⟩ : ∃ q, catL (putL putI) ([c, s, b].take k) = q := ⟨_, rfl⟩
      rw [hpre] at HTK HBK zk
      have CN := Lib.hid (fun X : World => pN_any (x.length : Int) X)
      have zn := pN_size (x.length : Int)
      have NG := Lib.hid (show w1.heap.size + 1 ≠ w.heap.size from by have := HA1.out.size; omega)
      have CW0 := Lib.hid (fun X hX hG hY => writeString_keep w.heap.size w.heap.size (w1.heap.size + 1) pre (pN (x.length : Int)) X #[.slice p1 c.length q1, .slice p2 s.length q2, .slice p3 b.length q3] 23 (0, 0) hX hG (by decide) NG.out (by omega) hY)
      obtain ⟨q, hq⟩ : ∃ q, x.all numM = q := ⟨_, rfl⟩
      have hqn : x.any (fun y => !numM y) = !q := by rw [← hq]; exact any_not _ _
      have CON := Lib.hid (fun (X : World) (hX : Below w.heap.size w X) => conJ_any B _ x (!q) hqn X (HN.out.keep hX hB) (Nat.le_trans hB hX.size))
      have hfin : okL x = (decide (x.length ≤ 6) && q) := by rw [okL, hq]
      have HFIN := Lib.hid hfin
      have i1 : (0 : Int) ≤ (k : Int) := by omega
      have i2 : (k : Int) < 3 := by omega
      have hxm : x.length ≤ 9223372036854775807 := by omega
      clear hx hnums hok0 hpre hq hqn hfin zn
      go_wp2_with fail
      refine (CN.out _).mono ?_
      rintro en w4 ⟨rfl, hb4⟩
      have BN4 := Lib.hid (builder_below hb4 HBK.out)
      have HB4 := Lib.hid (bstep HBL.out hb4)
      have HG4 := Lib.hid ((hb4.block _ (Array.getElem?_eq_some_iff.1 HGQ.out).1).trans HGQ.out)
      clear hb4
      go_wp2_with fail
      refine (CW0.out _ BN4.out HG4.out HB4.out.size).mono ?_
      rintro en w5 ⟨rfl, bn5, hb5, hg5⟩
      have BN5 := Lib.hid bn5
      have HB5 := Lib.hid (HB4.out.trans hb5)
      have HG5 := Lib.hid hg5
      clear bn5 hb5 hg5
      go_wp2_with fail
      go_loopw [10, 44] (fun _ t44 wi => ∃ j : Nat, j ≤ x.length ∧ t44 = .int .i64 j ∧ Lib.IsBuilder 100 5 w.heap.size w.heap.size (bcells (pre ++ putN (clampN x.length) ++ catL putI (x.take j))) wi ∧ (Below w.heap.size w wi ∧ wi.heap[w1.heap.size + 1]? = some (.cells #[.slice p1 c.length q1, .slice p2 s.length q2, .slice p3 b.length q3] 23))) (fun _ t44 _ => x.length - (intOf t44).toNat)
      case atStart => exact ⟨0, Nat.zero_le _, rfl, (by rw [show catL putI (x.take 0) = [] from rfl, List.append_nil]; exact BN5.out), HB5.out, HG5.out⟩
      case round =>
        obtain ⟨j, hj, rfl, bnj, hbj, hgj⟩ := hrel
        have BNJ := Lib.hid bnj
        have HBJ := Lib.hid hbj
        have HGJ := Lib.hid hgj
        clear bnj hbj hgj
        by_cases hlj : j < x.length
        · obtain ⟨b', off, cap', he, hblk, _, hc1⟩ := (HN.out.keep HBJ.out hB).at1 j hlj
          obtain ⟨rfl, -, rfl⟩ : ea = some ⟨b', off, none⟩ ∧ x.length = x.length ∧ ec = cap' := by injection he with e1 e2 e3; exact ⟨e1, e2, e3⟩
          clear he
          have HTJ := Lib.hid (catL_take (put := putI) hlj)
          have zj := catI_le (x.take j)
          rw [List.length_take] at zj
          have z6 := putN_len6 (clampN_le (x.length : Int))
          obtain ⟨y, hy⟩ : ∃ y, x[j] = y := ⟨_, rfl⟩
          rw [hy] at hc1 HTJ
          have zy := pN_size y
          have j1 : (0 : Int) ≤ (j : Int) := by omega
          have j2 : (j : Int) < (x.length : Int) := by omega
          have CPY := Lib.hid (fun X : World => pN_any y X)
          have CWJ := Lib.hid (fun X hX hG hY => writeString_keep w.heap.size w.heap.size (w1.heap.size + 1) (pre ++ putN (clampN x.length) ++ catL putI (x.take j)) (pN y) X #[.slice p1 c.length q1, .slice p2 s.length q2, .slice p3 b.length q3] 23 (0, 0) hX hG (by decide) NG.out (by rw [List.length_append, List.length_append]; omega) hY)
          clear hy zj z6 zy
          go_wp2_with fail
          refine (CPY.out _).mono ?_
          rintro en w6 ⟨rfl, hb6⟩
          have BN6 := Lib.hid (builder_below hb6 BNJ.out)
          have HB6 := Lib.hid (bstep HBJ.out hb6)
          have HG6 := Lib.hid ((hb6.block _ (Array.getElem?_eq_some_iff.1 HGJ.out).1).trans HGJ.out)
          clear hb6
          go_wp2_with fail
          refine (CWJ.out _ BN6.out HG6.out HB6.out.size).mono ?_
          rintro en w7 ⟨rfl, bn7, hb7, hg7⟩
          have BN7 := Lib.hid bn7
          have HB7 := Lib.hid (HB6.out.trans hb7)
          have HG7 := Lib.hid hg7
          clear bn7 hb7 hg7
          go_wp2_with fail
          go_roundw
          case rel =>
            refine ⟨j + 1, by omega, by go_num, ?_, HB7.out, HG7.out⟩
            rw [HTJ.out, ← List.append_assoc]
            exact BN7.out
          case measure => simp [intOf]; omega
        · have g : ¬ ((j : Int) < (x.length : Int)) := by omega
          have hxj : x.take j = x := List.take_of_length_le (by omega)
          have bnl := BNJ.out
          rw [hxj, List.append_assoc] at bnl
          have BNJ2 := Lib.hid (show Lib.IsBuilder 100 5 w.heap.size w.heap.size (bcells (pre ++ putL putI x)) wr from bnl)
          clear hxj bnl
          cases ok0 with
          | false =>
            have BN9 := BNJ2
            have HB9 := HBJ
            have HG9 := HGJ
            go_wp2_with fail
            go_roundw
            case rel =>
              refine ⟨k + 1, by omega, by go_num, ?_, ?_, HB9.out, HG9.out⟩
              · rw [HTA.out, Bool.false_and]
              · rw [HTK.out]
                exact BN9.out
            case measure => simp [intOf]; omega
          | true =>
            cases q with
            | true =>
              by_cases h6 : x.length ≤ 6
              · have g6 : (x.length : Int) ≤ 6 := by omega
                have H6 := Lib.hid h6
                clear h6
                go_wp2_with fail
                refine (CON.out _ HBJ.out).mono ?_
                rintro en w9 ⟨rfl, hb9⟩
                have BN9 := Lib.hid (builder_below hb9 BNJ2.out)
                have HB9 := Lib.hid (bstep HBJ.out hb9)
                have HG9 := Lib.hid ((hb9.block _ (Array.getElem?_eq_some_iff.1 HGJ.out).1).trans HGJ.out)
                clear hb9
                go_wp2_with fail
                go_roundw
                case rel =>
                  refine ⟨k + 1, by omega, by go_num, ?_, ?_, HB9.out, HG9.out⟩
                  · rw [HTA.out, HFIN.out, decide_eq_true H6.out]
                    rfl
                  · rw [HTK.out]
                    exact BN9.out
                case measure => simp [intOf]; omega
              · have g6 : ¬ (x.length : Int) ≤ 6 := by omega
                have H6 := Lib.hid h6
                clear h6
                have BN9 := BNJ2
                have HB9 := HBJ
                have HG9 := HGJ
                go_wp2_with fail
                go_roundw
                case rel =>
                  refine ⟨k + 1, by omega, by go_num, ?_, ?_, HB9.out, HG9.out⟩
                  · rw [HTA.out, HFIN.out, decide_eq_false H6.out]
                    rfl
                  · rw [HTK.out]
                    exact BN9.out
                case measure => simp [intOf]; omega
            | false =>
              by_cases h6 : x.length ≤ 6
              · have g6 : (x.length : Int) ≤ 6 := by omega
                have H6 := Lib.hid h6
                clear h6
                go_wp2_with fail
                refine (CON.out _ HBJ.out).mono ?_
                rintro en w9 ⟨rfl, hb9⟩
                have BN9 := Lib.hid (builder_below hb9 BNJ2.out)
                have HB9 := Lib.hid (bstep HBJ.out hb9)
                have HG9 := Lib.hid ((hb9.block _ (Array.getElem?_eq_some_iff.1 HGJ.out).1).trans HGJ.out)
                clear hb9
                go_wp2_with fail
                go_roundw
                case rel =>
                  refine ⟨k + 1, by omega, by go_num, ?_, ?_, HB9.out, HG9.out⟩
                  · rw [HTA.out, HFIN.out, decide_eq_true H6.out]
                    rfl
                  · rw [HTK.out]
                    exact BN9.out
                case measure => simp [intOf]; omega
              · have g6 : ¬ (x.length : Int) ≤ 6 := by omega
                have H6 := Lib.hid h6
                clear h6
                have BN9 := BNJ2
                have HB9 := HBJ
                have HG9 := HGJ
                go_wp2_with fail
                go_roundw
                case rel =>
                  refine ⟨k + 1, by omega, by go_num, ?_, ?_, HB9.out, HG9.out⟩
                  · rw [HTA.out, HFIN.out, decide_eq_false H6.out]
                    rfl
                  · rw [HTK.out]
                    exact BN9.out
                case measure => simp [intOf]; omega
    · have g : ¬ ((k : Int) < 3) := by omega
      obtain rfl : k = 3 := by omega
      have hbk := HBK.out
      rw [show [c, s, b].take 3 = [c, s, b] from rfl] at hbk
      have BNL := Lib.hid hbk
      have hok3 : ([c, s, b].take 3).all okL = (Msg.view a c s b).restOk := by rw [HOK.out]; rfl
      simp only [hok3]
      have HR := Lib.hid (show bstr (catL (putL putI) [c, s, b]) = bstr (Msg.view a c s b).rest from by rw [HREST.out])
      clear hbk hok3
      go_wp2_with fail
      refine (builder_string _ _ _ _ BNL.out HBL.out.size).mono ?_
      rintro r w8 ⟨rfl, hb8⟩
      go_wp2_with fail
      go_ret2
      exact ⟨by rw [← HR.out]; rfl, HBL.out.trans hb8⟩
end Go.Proofs.YtflojipkgaocnaaGreatDoor
